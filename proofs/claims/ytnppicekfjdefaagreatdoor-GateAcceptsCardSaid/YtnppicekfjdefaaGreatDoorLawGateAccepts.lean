/- PROVED: GateAccepts returns true for every input and leaves its arguments as they were. No condition beyond the statement's own (the listed variables read as the program's text lays them, which the card ties). -/
import Derived.Test.YtnppicekfjdefaaGreatDoorFrame
import Derived.Test.YtnppicekfjdefaaGreatDoorClosed
import Derived.Test.YtnppicekfjdefaaGreatDoorGateO
import Derived.StillTailTactics
import Derived.Deep.LoopGhost
namespace Go.Proofs.YtnppicekfjdefaaGreatDoor.lawGateAccepts
open Go.ChangeShapes Go.WideShapes Go.ChangeAt Go.RowKit Pl Ad A1
open Go.ChangeMaps (open_string shut_string)
attribute [local go_sem] ba_get conv_one conv_one_drewN ba_append ba_extract
set_option maxRecDepth 100000
set_option maxHeartbeats 4000000
set_option linter.unusedVariables false

/-- What the last loop reads. -/
structure FS (w3 wB : World) (v : Value) (g : GateM) (ku au : Value) (X : Nat) (xt : Int) (xa : Bs) (tags : List Bs) (nu uq : Value) (Q : Nat) (asOf m : Int) (w' : World) : Prop where
  pair : PairS w3 w' (w3.heap.size + 1) w3.heap.size v g (w3.heap.size + 1 + 1) g ku au
  item : Box3 w' X 47 (.int .i64 xt) (.string ⟨xa.toArray⟩) nu
  str : StrsV w' nu tags
  qb : QBox w' Q xt xa uq asOf m
  qs : StrsV w' uq tags
  rd : Ready w'
  bel : Below wB.heap.size wB w'
theorem FS.keep {w3 wB : World} {v : Value} {g : GateM} {ku au : Value} {X : Nat} {xt : Int} {xa : Bs} {tags : List Bs} {nu uq : Value} {Q : Nat} {asOf m : Int} {w1 w2 : World} {N : Nat} (hb : Below N w1 w2) (hN : N = w1.heap.size) (s : FS w3 wB v g ku au X xt xa tags nu uq Q asOf m w1) : FS w3 wB v g ku au X xt xa tags nu uq Q asOf m w2 := by
  subst hN
  exact ⟨s.pair.older hb, s.item.older hb, s.str.below hb, s.qb.older hb, s.qs.below hb, s.rd.below hb, s.bel.trans (hb.mono s.bel.size)⟩
theorem FS.drew {w3 wB : World} {v : Value} {g : GateM} {ku au : Value} {X : Nat} {xt : Int} {xa : Bs} {tags : List Bs} {nu uq : Value} {Q : Nat} {asOf m : Int} {w1 : World} (s : FS w3 wB v g ku au X xt xa tags nu uq Q asOf m w1) : FS w3 wB v g ku au X xt xa tags nu uq Q asOf m w1.drew := s.keep (Below.refl _ _).drew rfl
theorem FS.newer {w3 wB : World} {v : Value} {g : GateM} {ku au : Value} {X : Nat} {xt : Int} {xa : Bs} {tags : List Bs} {nu uq : Value} {Q : Nat} {asOf m : Int} {w1 : World} (s : FS w3 wB v g ku au X xt xa tags nu uq Q asOf m w1) (o : Obj) : FS w3 wB v g ku au X xt xa tags nu uq Q asOf m (w1.alloc o) := s.keep ((Below.refl _ _).alloc (Nat.le_refl _) o) rfl
theorem FS.of {w3 wB : World} {v : Value} {g : GateM} {ku au : Value} {X : Nat} {xt : Int} {xa : Bs} {tags : List Bs} {nu uq : Value} {Q : Nat} {asOf m : Int} {w' : World} (s : (w'.cell? ⟨X, 0, none⟩ = some (.int .i64 xt) ∧ w'.cell? ⟨X, 1, none⟩ = some (.string ⟨xa.toArray⟩) ∧ w'.cell? ⟨X, 2, none⟩ = some nu ∧ w'.cell? ⟨(w3.heap.size + 1 + 1), 0, none⟩ = some (.int .i64 g.applied) ∧ w'.cell? ⟨(w3.heap.size + 1 + 1), 1, none⟩ = some (.int .i64 g.floor) ∧ w'.cell? ⟨(w3.heap.size + 1 + 1), 2, none⟩ = some (.int .i64 g.win) ∧ w'.cell? ⟨(w3.heap.size + 1 + 1), 3, none⟩ = some ku ∧ w'.cell? ⟨(w3.heap.size + 1 + 1), 4, none⟩ = some au ∧ w'.cell? ⟨Q, 0, none⟩ = some (.int .i64 xt) ∧ w'.cell? ⟨Q, 1, none⟩ = some (.string ⟨xa.toArray⟩) ∧ w'.cell? ⟨Q, 2, none⟩ = some uq) ∧ FS w3 wB v g ku au X xt xa tags nu uq Q asOf m w') : FS w3 wB v g ku au X xt xa tags nu uq Q asOf m w' := s.2
theorem FS.all {w3 wB : World} {v : Value} {g : GateM} {ku au : Value} {X : Nat} {xt : Int} {xa : Bs} {tags : List Bs} {nu uq : Value} {Q : Nat} {asOf m : Int} {w' : World} (s : FS w3 wB v g ku au X xt xa tags nu uq Q asOf m w') : (w'.cell? ⟨X, 0, none⟩ = some (.int .i64 xt) ∧ w'.cell? ⟨X, 1, none⟩ = some (.string ⟨xa.toArray⟩) ∧ w'.cell? ⟨X, 2, none⟩ = some nu ∧ w'.cell? ⟨(w3.heap.size + 1 + 1), 0, none⟩ = some (.int .i64 g.applied) ∧ w'.cell? ⟨(w3.heap.size + 1 + 1), 1, none⟩ = some (.int .i64 g.floor) ∧ w'.cell? ⟨(w3.heap.size + 1 + 1), 2, none⟩ = some (.int .i64 g.win) ∧ w'.cell? ⟨(w3.heap.size + 1 + 1), 3, none⟩ = some ku ∧ w'.cell? ⟨(w3.heap.size + 1 + 1), 4, none⟩ = some au ∧ w'.cell? ⟨Q, 0, none⟩ = some (.int .i64 xt) ∧ w'.cell? ⟨Q, 1, none⟩ = some (.string ⟨xa.toArray⟩) ∧ w'.cell? ⟨Q, 2, none⟩ = some uq) ∧ FS w3 wB v g ku au X xt xa tags nu uq Q asOf m w' := ⟨⟨s.item.facts.1.1, s.item.facts.1.2.1, s.item.facts.1.2.2, s.pair.box.facts.1.1, s.pair.box.facts.1.2.1, s.pair.box.facts.1.2.2.1, s.pair.box.facts.1.2.2.2.1, s.pair.box.facts.1.2.2.2.2, s.qb.facts.1.1, s.qb.facts.1.2.1, s.qb.facts.1.2.2.1⟩, s⟩
theorem fs_acc {w3 wB : World} {v : Value} {g : GateM} {ku au : Value} {X : Nat} {xt : Int} {xa : Bs} {tags : List Bs} {nu uq : Value} {Q : Nat} {asOf m : Int} {a cc : Int} {w' : World} (hc : g.acceptC ⟨xt, xa, tags⟩ a = cc) (hx : xa.length ≤ 134217728) (htl : tags.length ≤ 40) (s : FS w3 wB v g ku au X xt xa tags nu uq Q asOf m w') :
    Calls Tryz.prog 15 #[ptrV (w3.heap.size + 1), itV xt xa nu, .int .i64 a] w' fun e w'' => e = .returned (codeV cc) ∧ Below w'.heap.size w' w'' := by
  rw [← hc]
  exact gateAccept w3.heap.size (w3.heap.size + 1) w3.heap.size v g xt xa tags nu a w' s.pair.run.gate s.pair.run.ok s.rd hx s.str (by omega)
theorem fs_racc {w3 wB : World} {v : Value} {g : GateM} {ku au : Value} {X : Nat} {xt : Int} {xa : Bs} {tags : List Bs} {nu uq : Value} {Q : Nat} {asOf m : Int} {a cc : Int} {w' : World} (hc : g.acceptC ⟨xt, xa, tags⟩ a = cc) (hx : xa.length ≤ 134217728) (htl : tags.length ≤ 40) (s : FS w3 wB v g ku au X xt xa tags nu uq Q asOf m w') :
    Calls Tryz.prog 16 #[rgV g ku au, itV xt xa uq, .int .i64 a] w' fun e w'' => e = .returned (.int .i64 cc) ∧ Below w'.heap.size w' w'' := by
  rw [← hc]
  exact refAccept_any g ku au xt xa tags uq a w' s.pair.run.ok s.pair.ref hx s.qs (by omega)
theorem walk_big (va : Option Addr) (vc : Nat) (acts : List GAct) (xt : Int) (xa : Bs) (tags : List Bs) (ua : Option Addr) (uc : Nat) (asOf m : Int) (w : World) (hr : Ready w) (hv : RowsV actG 3 w (.slice va acts.length vc) acts) (hl : acts.length ≤ 9223372036854775807) (ha : ∀ a ∈ acts, RowsV pcells 3 w a.u a.list ∧ a.list.length ≤ 9223372036854775807) (hux : StrsV w (.slice ua tags.length uc) tags) (htl : tags.length ≤ 9223372036854775807) (h0 : 0 ≤ m) (h255 : m < 256) (hf : fitsG acts = false) :
    Calls Tryz.prog 4 #[.slice va acts.length vc, .agg #[.int .i64 xt, .string ⟨xa.toArray⟩, (.slice ua tags.length uc), .int .i64 asOf, .int .u8 m]] w fun e w' => e = .returned (.bool true) ∧ Below w.heap.size w w' := by
  have hb0 := (Below.refl w.heap.size w).alloc (Nat.le_refl _) (.cells #[.int .i64 xt, .string ⟨xa.toArray⟩, (.slice ua tags.length uc), .int .i64 asOf, .int .u8 m] 45)
  have HB0 := Lib.hid hb0
  have HQ0 : Hid (QBox (w.alloc (.cells #[.int .i64 xt, .string ⟨xa.toArray⟩, (.slice ua tags.length uc), .int .i64 asOf, .int .u8 m] 45)) w.heap.size xt xa (.slice ua tags.length uc) asOf m) := Lib.hid (heap_alloc_new w _)
  have HV := Lib.hid hv
  have HU := Lib.hid hux
  have HRA : Hid (∀ w', Below w.heap.size w w' → Ready w') := Lib.hid fun w' hb => hr.below hb
  have HA := Lib.hid ha
  clear hb0 hv hux ha
  have HF := Lib.hid hf
  clear hf
  go_enter Tryz.func4, Tryz.ntmps4
  go_wp2_with fail
  refine (awake38_any _ (HRA.out _ HB0.out)).mono ?_
  rintro e w1 ⟨rfl, hb1⟩
  have HB1 := Lib.hid (HB0.out.trans (hb1.mono HB0.out.size))
  have HQ1 := Lib.hid (HQ0.out.older hb1)
  obtain ⟨⟨d0, d1, d2, d3, d4⟩, hzq⟩ := HQ1.out.facts
  clear hb1
  go_wp2_with (first | (go_at_call 6; refine (fits38_any (.slice va acts.length vc) acts _ (HV.out.below HB1.out) hl (fun a h => ⟨(HA.out a h).1.below HB1.out, (HA.out a h).2⟩)).mono ?_; rw [HF.out]; rintro e w2 ⟨rfl, rfl⟩) | (go_at_call 5; refine (awake38_any _ (HRA.out _ HB1.out)).mono ?_; rintro e w3 ⟨rfl, hb3⟩))
  go_ret
  exact ⟨rfl, HB1.out.trans (hb3.mono HB1.out.size)⟩
theorem walk_huge (va : Option Addr) (vc : Nat) (acts : List GAct) (xt : Int) (xa : Bs) (tags : List Bs) (ua : Option Addr) (uc : Nat) (asOf m : Int) (w : World) (hr : Ready w) (hv : RowsV actG 3 w (.slice va acts.length vc) acts) (hl : acts.length ≤ 9223372036854775807) (ha : ∀ a ∈ acts, RowsV pcells 3 w a.u a.list ∧ a.list.length ≤ 9223372036854775807) (hux : StrsV w (.slice ua tags.length uc) tags) (htl : tags.length ≤ 9223372036854775807) (h0 : 0 ≤ m) (h255 : m < 256) (hf : fitsG acts = true) (ht : tinyB ⟨xt, xa, tags⟩ = false) :
    Calls Tryz.prog 4 #[.slice va acts.length vc, .agg #[.int .i64 xt, .string ⟨xa.toArray⟩, (.slice ua tags.length uc), .int .i64 asOf, .int .u8 m]] w fun e w' => e = .returned (.bool true) ∧ Below w.heap.size w w' := by
  have hb0 := (Below.refl w.heap.size w).alloc (Nat.le_refl _) (.cells #[.int .i64 xt, .string ⟨xa.toArray⟩, (.slice ua tags.length uc), .int .i64 asOf, .int .u8 m] 45)
  have HB0 := Lib.hid hb0
  have HQ0 : Hid (QBox (w.alloc (.cells #[.int .i64 xt, .string ⟨xa.toArray⟩, (.slice ua tags.length uc), .int .i64 asOf, .int .u8 m] 45)) w.heap.size xt xa (.slice ua tags.length uc) asOf m) := Lib.hid (heap_alloc_new w _)
  have HV := Lib.hid hv
  have HU := Lib.hid hux
  have HRA : Hid (∀ w', Below w.heap.size w w' → Ready w') := Lib.hid fun w' hb => hr.below hb
  have HA := Lib.hid ha
  clear hb0 hv hux ha
  have HF := Lib.hid hf
  have HT := Lib.hid ht
  clear hf ht
  go_enter Tryz.func4, Tryz.ntmps4
  go_wp2_with fail
  refine (awake38_any _ (HRA.out _ HB0.out)).mono ?_
  rintro e w1 ⟨rfl, hb1⟩
  have HB1 := Lib.hid (HB0.out.trans (hb1.mono HB0.out.size))
  have HQ1 := Lib.hid (HQ0.out.older hb1)
  obtain ⟨⟨d0, d1, d2, d3, d4⟩, hzq⟩ := HQ1.out.facts
  clear hb1
  go_wp2_with (first | (go_at_call 6; refine (fits38_any (.slice va acts.length vc) acts _ (HV.out.below HB1.out) hl (fun a h => ⟨(HA.out a h).1.below HB1.out, (HA.out a h).2⟩)).mono ?_; rw [HF.out]; rintro e w2 ⟨rfl, rfl⟩) | (go_at_call 12; refine (tiny38_any xt xa tags ua uc _ htl).mono ?_; rw [HT.out]; rintro e w3 ⟨rfl, hb3⟩; have HB3 := Lib.hid (HB1.out.trans (hb3.mono HB1.out.size)); have HQ3 := Lib.hid (HQ1.out.older hb3); clear hb3 d0 d1 d2 d3 d4; obtain ⟨⟨d0, d1, d2, d3, d4⟩, hz3⟩ := HQ3.out.facts) | (go_at_call 5; refine (awake38_any _ (HRA.out _ HB3.out)).mono ?_; rintro e w4 ⟨rfl, hb4⟩))
  go_ret
  exact ⟨rfl, HB3.out.trans (hb4.mono HB3.out.size)⟩
theorem walk_ok (va : Option Addr) (vc : Nat) (acts : List GAct) (xt : Int) (xa : Bs) (tags : List Bs) (ua : Option Addr) (uc : Nat) (asOf m : Int) (w : World) (hr : Ready w) (hv : RowsV actG 3 w (.slice va acts.length vc) acts) (hl : acts.length ≤ 9223372036854775807) (ha : ∀ a ∈ acts, RowsV pcells 3 w a.u a.list ∧ a.list.length ≤ 9223372036854775807) (hux : StrsV w (.slice ua tags.length uc) tags) (htl : tags.length ≤ 9223372036854775807) (h0 : 0 ≤ m) (h255 : m < 256) (hf : fitsG acts = true) (ht : tinyB ⟨xt, xa, tags⟩ = true) :
    Calls Tryz.prog 4 #[.slice va acts.length vc, .agg #[.int .i64 xt, .string ⟨xa.toArray⟩, (.slice ua tags.length uc), .int .i64 asOf, .int .u8 m]] w fun e w' => e = .returned (.bool true) ∧ Below w.heap.size w w' := by
  have hb0 := (Below.refl w.heap.size w).alloc (Nat.le_refl _) (.cells #[.int .i64 xt, .string ⟨xa.toArray⟩, (.slice ua tags.length uc), .int .i64 asOf, .int .u8 m] 45)
  have HB0 := Lib.hid hb0
  have HQ0 : Hid (QBox (w.alloc (.cells #[.int .i64 xt, .string ⟨xa.toArray⟩, (.slice ua tags.length uc), .int .i64 asOf, .int .u8 m] 45)) w.heap.size xt xa (.slice ua tags.length uc) asOf m) := Lib.hid (heap_alloc_new w _)
  have HV := Lib.hid hv
  have HU := Lib.hid hux
  have HRA : Hid (∀ w', Below w.heap.size w w' → Ready w') := Lib.hid fun w' hb => hr.below hb
  have HA := Lib.hid ha
  clear hb0 hv hux ha
  have hl40 := (fitsG_true hf).2
  have HSH := Lib.hid (fitsG_true hf).1
  have HF := Lib.hid hf
  have HT := Lib.hid ht
  have htt : tags.length ≤ 40 ∧ xa.length ≤ 1200 := by unfold tinyB at ht; simpa using ht
  have hxl : xa.length ≤ 134217728 := by omega
  have htl4 : tags.length ≤ 40 := htt.1
  obtain ⟨k, hk⟩ : ∃ k : Nat, 1 + m % 24 = (k : Int) := ⟨(1 + m % 24).toNat, by omega⟩
  have hk1 : 1 ≤ k := by omega
  have hk2 : k ≤ 24 := by omega
  have HK := Lib.hid hk
  have HRY := Lib.hid hr
  clear hf ht hk htt
  go_enter Tryz.func4, Tryz.ntmps4
  go_wp2_with fail
  refine (awake38_any _ (HRA.out _ HB0.out)).mono ?_
  rintro e w1 ⟨rfl, hb1⟩
  have HB1 := Lib.hid (HB0.out.trans (hb1.mono HB0.out.size))
  have HQ1 := Lib.hid (HQ0.out.older hb1)
  obtain ⟨⟨d0, d1, d2, d3, d4⟩, hzq⟩ := HQ1.out.facts
  clear hb1
  go_wp2_with (first | (go_at_call 6; refine (fits38_any (.slice va acts.length vc) acts _ (HV.out.below HB1.out) hl (fun a h => ⟨(HA.out a h).1.below HB1.out, (HA.out a h).2⟩)).mono ?_; rw [HF.out]; rintro e w2 ⟨rfl, rfl⟩) | (go_at_call 12; refine (tiny38_any xt xa tags ua uc _ htl).mono ?_; rw [HT.out]; rintro e w3 ⟨rfl, hb3⟩; have HB3 := Lib.hid (HB1.out.trans (hb3.mono HB1.out.size)); have HQ3 := Lib.hid (HQ1.out.older hb3); clear hb3 d0 d1 d2 d3 d4; obtain ⟨⟨d0, d1, d2, d3, d4⟩, hz3⟩ := HQ3.out.facts))
  go_wp2_with (go_at_call 8; refine (window38_any m _ h0 h255).mono ?_; rw [HK.out]; rintro e w' ⟨rfl, rfl⟩)
  refine (gateNew_ok k _ (by omega) (by omega)).mono ?_
  rintro e w4 ⟨rfl, rfl⟩
  have HR := Lib.hid (gRun_new w3 k hk1 (by omega))
  have HU4 := Lib.hid (HU.out.below HB3.out)
  have HRY3 := Lib.hid (HRA.out _ HB3.out)
  have HV3 := Lib.hid (HV.out.below HB3.out)
  have HA3 := Lib.hid (fun a h => (HA.out a h).1.below HB3.out)
  clear d0 d1 d2 d3 d4 hz3
  obtain ⟨⟨d0, d1, d2, d3, d4⟩, hz4⟩ := (HQ3.out.older HR.out.bel).facts
  go_wp2_with (go_at_call 8; refine (window38_any m _ h0 h255).mono ?_; rw [HK.out]; rintro e w' ⟨rfl, rfl⟩)
  have hP := pair_new (r := GateM.start k) (ku := .slice none 0 0) (au := .slice none 0 0) HR.out ⟨RowsV.nil, RowsV.nil, TypedV.none _ _, TypedV.none _ _⟩
  rw [show ((w3.alloc (.map #[] 0)).alloc (.cells #[.int .i64 (k : Int), .int .i64 0, .int .i64 0, .slice none 0 0, .map (some w3.heap.size)] 63)).heap.size = w3.heap.size + 1 + 1 by simp] at hP
  have HP5 := Lib.hid hP
  clear hP d0 d1 d2 d3 d4 hz4
  go_loopg [8] acts.length (fun q iv wr => ∃ (j : Nat) (v : Value) (g : GateM) (ku au : Value), j ≤ acts.length ∧ iv = .int .i64 j ∧ Hid (acts.length ≤ q + j) ∧ PairS w3 wr (w3.heap.size + 1) w3.heap.size v g (w3.heap.size + 1 + 1) g ku au)
  case atStart => exact ⟨0, _, GateM.start k, _, _, Nat.zero_le _, rfl, Lib.hid (by omega), HP5.out⟩
  case round =>
    obtain ⟨j, v, g, ku, au, hj, rfl, HQ11, s⟩ := hrel
    obtain ⟨ka, kc, rfl, _⟩ := s.ref.kept.form
    obtain ⟨aa, ac, rfl, _⟩ := s.ref.aside.form
    have HS1 := Lib.hid s
    have hg0 := s.run.ok.lo
    have hg1 := s.run.ok.hi
    have hg2 : g.floor ≤ g.applied := by have := s.run.ok.len; omega
    clear s
    obtain ⟨⟨c0, c1, c2, c3, c4⟩, ⟨f0, f1, f2, f3, f4⟩, hz⟩ := HS1.out.box.facts
    by_cases hlt : j < acts.length
    · obtain ⟨b0, o, c, e, hc, hbz, hcell⟩ := HV3.out.at hlt
      cases e
      have HSj := Lib.hid (HSH.out acts[j] (List.getElem_mem hlt))
      have HAj := Lib.hid (HA3.out acts[j] (List.getElem_mem hlt))
      generalize acts[j] = y at hcell HSj HAj
      have HRj := Lib.hid (HAj.out.below HS1.out.run.bel)
      have HZj := Lib.hid (shortB_true HSj.out)
      have q0 := (HS1.out.run.bel.cell (p := ⟨b0, _, none⟩) hbz).trans (hcell 0 _ rfl)
      have q1 := (HS1.out.run.bel.cell (p := ⟨b0, _, none⟩) hbz).trans (hcell 1 _ rfl)
      have q2 := (HS1.out.run.bel.cell (p := ⟨b0, _, none⟩) hbz).trans (hcell 2 _ rfl)
      rw [Nat.add_zero] at q0
      rw [← Nat.add_assoc] at q1 q2
      have HC0 := Lib.hid (show w3.cell? ⟨b0, o + j * 3, none⟩ = some (.bool y.jump) from hcell 0 _ rfl)
      have HC1 := Lib.hid (show w3.cell? ⟨b0, o + j * 3 + 1, none⟩ = some (.int .i64 y.first) from hcell 1 _ rfl)
      have HC2 := Lib.hid (show w3.cell? ⟨b0, o + j * 3 + 2, none⟩ = some y.u from hcell 2 _ rfl)
      clear hcell
      obtain ⟨yj, yn, yu, yl⟩ := y
      obtain ⟨h, hh⟩ : ∃ h, g.doA ⟨yj, yn, yu, yl⟩ = h := ⟨_, rfl⟩
      have HH := Lib.hid hh
      clear hh
      go_wp2_with fail
      have HSd := Lib.hid (HS1.out.older (Below.refl _ _).drew)
      go_still_tail 5, (by kernel_rfl)
      change wpList _ _ _ _ _ wr.drew
      generalize hw8 : wr.drew = w8 at HSd ⊢
      clear hw8
      go_upto_region 11 with (go_at_call 9; refine (told38_any g (.slice ka g.kept.length kc) (.slice aa g.aside.length ac) yu yj yn yl _ (HAj.out.below HSd.out.run.bel) (Nat.le_trans HZj.out.2 (by decide)) (fun p hp => Nat.le_trans (HZj.out.1 p hp) (by decide)) HSd.out.run.ok HSd.out.ref).mono ?_; rw [HH.out]; rintro e w9 ⟨ku9, au9, rfl, hr9, hb9⟩; obtain ⟨kb, kd, rfl, _⟩ := hr9.kept.form; obtain ⟨ab, ad, rfl, _⟩ := hr9.aside.form; have HS10 := Lib.hid (HSd.out.store hr9 hb9); have HS9 := Lib.hid (HSd.out.older hb9); clear hr9 hb9 c0 c1 c2 c3 c4 f0 f1 f2 f3 f4 q0 q1 q2; obtain ⟨⟨c0, c1, c2, c3, c4⟩, ⟨f0, f1, f2, f3, f4⟩, hz9⟩ := HS9.out.box.facts)
      generalize hw9 : (((((w9.setCell ⟨(w3.heap.size + 1 + 1), 0, none⟩ (.int .i64 h.applied)).setCell ⟨(w3.heap.size + 1 + 1), 1, none⟩ (.int .i64 h.floor)).setCell ⟨(w3.heap.size + 1 + 1), 2, none⟩ (.int .i64 h.win)).setCell ⟨(w3.heap.size + 1 + 1), 3, none⟩ (.slice kb h.kept.length kd)).setCell ⟨(w3.heap.size + 1 + 1), 4, none⟩ (.slice ab h.aside.length ad)) = w10 at HS10 ⊢
      clear hw9
      have HQ0 := Lib.hid ((HS10.out.run.bel.cell (p := ⟨b0, _, none⟩) hbz).trans HC0.out)
      have HQ1 := Lib.hid ((HS10.out.run.bel.cell (p := ⟨b0, _, none⟩) hbz).trans HC1.out)
      have HQ2 := Lib.hid ((HS10.out.run.bel.cell (p := ⟨b0, _, none⟩) hbz).trans HC2.out)
      have q0 := HQ0.out
      have q1 := HQ1.out
      have q2 := HQ2.out
      go_wp2_with (go_at_call 10; refine (do38_any w3 _ (w3.heap.size + 1) w3.heap.size v yu g yj yn yl HS10.out.run HRY3.out (HAj.out.below HS10.out.run.bel) (fun p hp => Nat.le_trans (HZj.out.1 p hp) (by decide)) (Nat.le_trans HZj.out.2 (by decide))).mono ?_; rw [HH.out]; rintro e w11 ⟨v11, rfl, hr11, hg11⟩; have HS11 := Lib.hid (HS10.out.goes hr11 hg11); clear hr11 hg11)
      go_roundg (gk - 1)
      case rel => exact ⟨j + 1, v11, h, _, _, by omega, by go_num, Lib.hid (by have := HQ11.out; omega), HS11.out⟩
      case measure => have := HQ11.out; omega
    · obtain ⟨⟨d0, d1, d2, d3, d4⟩, hz4⟩ := (HQ3.out.older HS1.out.run.bel).facts
      go_wp2_with (go_at_call 13; refine (item36_any xt xa _ tags _ (HU4.out.below HS1.out.run.bel) (by omega)).mono ?_; rintro e w5 ⟨nv, rfl, hnv, hb5⟩; obtain ⟨na, nc, rfl⟩ := hnv.form; have HS5 := Lib.hid (HS1.out.older hb5); have HN5 := Lib.hid hnv; clear hb5 hnv d0 d1 d2 d3 d4 c0 c1 c2 c3 c4 f0 f1 f2 f3 f4; obtain ⟨⟨d0, d1, d2, d3, d4⟩, hz5⟩ := (HQ3.out.older HS5.out.run.bel).facts; obtain ⟨⟨c0, c1, c2, c3, c4⟩, ⟨f0, f1, f2, f3, f4⟩, hz6⟩ := HS5.out.box.facts)
      have hbb := ((Below.refl w5.heap.size w5).alloc (Nat.le_refl _) (.cells #[.int .i64 xt, .string ⟨xa.toArray⟩, .slice na tags.length nc] 47)).alloc (by simp) (.cells #[.int .i64 asOf, .int .i64 g.applied, .int .i64 (g.applied - 1), .int .i64 g.floor, .int .i64 (g.floor - 1), .int .i64 (g.applied + 1)] 3)
      have HS6 := Lib.hid (HS5.out.older hbb)
      have HN6 := Lib.hid (HN5.out.below hbb)
      have hx := (box3_new w5 47 (.int .i64 xt) (.string ⟨xa.toArray⟩) (.slice na tags.length nc)).alloc (.cells #[.int .i64 asOf, .int .i64 g.applied, .int .i64 (g.applied - 1), .int .i64 g.floor, .int .i64 (g.floor - 1), .int .i64 (g.applied + 1)] 3)
      have hlst := heap_alloc_new (w5.alloc (.cells #[.int .i64 xt, .string ⟨xa.toArray⟩, .slice na tags.length nc] 47)) (.cells #[.int .i64 asOf, .int .i64 g.applied, .int .i64 (g.applied - 1), .int .i64 g.floor, .int .i64 (g.floor - 1), .int .i64 (g.applied + 1)] 3)
      rw [show (w5.alloc (.cells #[.int .i64 xt, .string ⟨xa.toArray⟩, .slice na tags.length nc] 47)).heap.size = w5.heap.size + 1 by simp] at hlst
      clear d0 d1 d2 d3 d4 c0 c1 c2 c3 c4 f0 f1 f2 f3 f4 hbb
      generalize hwB : (w5.alloc (.cells #[.int .i64 xt, .string ⟨xa.toArray⟩, .slice na tags.length nc] 47)).alloc (.cells #[.int .i64 asOf, .int .i64 g.applied, .int .i64 (g.applied - 1), .int .i64 g.floor, .int .i64 (g.floor - 1), .int .i64 (g.applied + 1)] 3) = wB at HS6 HN6 hx hlst ⊢
      have HX6 := Lib.hid hx
      have HLst := Lib.hid hlst
      have HAT : Hid (∀ i : Nat, i < 6 → ∃ a : Int, wB.cell? ⟨w5.heap.size + 1, i, none⟩ = some (.int .i64 a)) := Lib.hid (fun i hi => by
        rw [cell_of_row wB (w5.heap.size + 1) i _ _ _ hlst]
        match i, hi with
        | 0, _ => exact ⟨_, rfl⟩
        | 1, _ => exact ⟨_, rfl⟩
        | 2, _ => exact ⟨_, rfl⟩
        | 3, _ => exact ⟨_, rfl⟩
        | 4, _ => exact ⟨_, rfl⟩
        | 5, _ => exact ⟨_, rfl⟩)
      have hlz := (Array.getElem?_eq_some_iff.1 hlst).1
      clear hwB hx hlst
      have HFB := Lib.hid (show FS w3 wB v g (.slice ka g.kept.length kc) (.slice aa g.aside.length ac) w5.heap.size xt xa tags (.slice na tags.length nc) (.slice ua tags.length uc) w.heap.size asOf m wB from ⟨HS6.out, HX6.out, HN6.out, HQ3.out.older HS6.out.run.bel, HU.out.below (HB3.out.trans (HS6.out.run.bel.mono HB3.out.size)), HRY3.out.below HS6.out.run.bel, Below.refl _ _⟩)
      go_loopg [77, 11] 6 (fun q iv s11 wr => ∃ i : Nat, iv = .int .i64 i ∧ i ≤ 6 ∧ Hid (6 ≤ q + i) ∧ FS w3 wB v g (.slice ka g.kept.length kc) (.slice aa g.aside.length ac) w5.heap.size xt xa tags (.slice na tags.length nc) (.slice ua tags.length uc) w.heap.size asOf m wr)
      case atStart => exact ⟨0, rfl, by omega, Lib.hid (by omega), HFB.out⟩
      case round =>
        obtain ⟨i, rfl, hi, HQ12, hbr⟩ := hrel
        have HBR := Lib.hid hbr
        clear hbr
        by_cases hi6 : i < 6
        · obtain ⟨a, ha⟩ := HAT.out i hi6
          have l0 := (HBR.out.bel.cell (p := ⟨w5.heap.size + 1, i, none⟩) hlz).trans ha
          clear ha
          obtain ⟨cc, hcc⟩ : ∃ cc, g.acceptC ⟨xt, xa, tags⟩ a = cc := ⟨_, rfl⟩
          have HC := Lib.hid hcc
          clear hcc
          have hF := HBR.out
          obtain ⟨⟨x0, x1, x2, c0, c1, c2, c3, c4, d0, d1, d2⟩, _⟩ := FS.all hF
          go_wp2_with fail
          go_region_held3 (fun w' => (w'.cell? ⟨w5.heap.size, 0, none⟩ = some (.int .i64 xt) ∧ w'.cell? ⟨w5.heap.size, 1, none⟩ = some (.string ⟨xa.toArray⟩) ∧ w'.cell? ⟨w5.heap.size, 2, none⟩ = some (.slice na tags.length nc) ∧ w'.cell? ⟨(w3.heap.size + 1 + 1), 0, none⟩ = some (.int .i64 g.applied) ∧ w'.cell? ⟨(w3.heap.size + 1 + 1), 1, none⟩ = some (.int .i64 g.floor) ∧ w'.cell? ⟨(w3.heap.size + 1 + 1), 2, none⟩ = some (.int .i64 g.win) ∧ w'.cell? ⟨(w3.heap.size + 1 + 1), 3, none⟩ = some (.slice ka g.kept.length kc) ∧ w'.cell? ⟨(w3.heap.size + 1 + 1), 4, none⟩ = some (.slice aa g.aside.length ac) ∧ w'.cell? ⟨w.heap.size, 0, none⟩ = some (.int .i64 xt) ∧ w'.cell? ⟨w.heap.size, 1, none⟩ = some (.string ⟨xa.toArray⟩) ∧ w'.cell? ⟨w.heap.size, 2, none⟩ = some (.slice ua tags.length uc)) ∧ FS w3 wB v g (.slice ka g.kept.length kc) (.slice aa g.aside.length ac) w5.heap.size xt xa tags (.slice na tags.length nc) (.slice ua tags.length uc) w.heap.size asOf m w') ((refine FS.all ?_; (repeat (first | assumption | (refine FS.of ?_; assumption) | (with_reducible refine FS.drew ?_) | (with_reducible refine FS.newer ?_ _) | (with_reducible refine FS.keep hb9 rfl ?_)))))
            ((first
              | (go_at_call 15; with_reducible refine (fs_acc (w3 := w3) (wB := wB) (v := v) (g := g) (ku := .slice ka g.kept.length kc) (au := .slice aa g.aside.length ac) (X := w5.heap.size) (xt := xt) (xa := xa) (tags := tags) (nu := (.slice na tags.length nc)) (uq := (.slice ua tags.length uc)) (Q := w.heap.size) (asOf := asOf) (m := m) HC.out hxl htl4 ?_).mono ?_; (repeat (first | assumption | (refine FS.of ?_; assumption) | (with_reducible refine FS.drew ?_) | (with_reducible refine FS.newer ?_ _) | (with_reducible refine FS.keep hb9 rfl ?_))); rintro e w9 ⟨rfl, hb9⟩)
              | (go_at_call 14; with_reducible refine (num_codeV cc _).mono ?_; rintro e w9 ⟨rfl, rfl⟩)
              | (go_at_call 16; with_reducible refine (fs_racc (w3 := w3) (wB := wB) (v := v) (g := g) (ku := .slice ka g.kept.length kc) (au := .slice aa g.aside.length ac) (X := w5.heap.size) (xt := xt) (xa := xa) (tags := tags) (nu := (.slice na tags.length nc)) (uq := (.slice ua tags.length uc)) (Q := w.heap.size) (asOf := asOf) (m := m) HC.out hxl htl4 ?_).mono ?_; (repeat (first | assumption | (refine FS.of ?_; assumption) | (with_reducible refine FS.drew ?_) | (with_reducible refine FS.newer ?_ _) | (with_reducible refine FS.keep hb9 rfl ?_))); rintro e w9 ⟨rfl, hb9⟩)))
          all_goals
            go_wp2_with fail
            go_roundg (gk - 1)
            case rel => exact ⟨i + 1, by go_num, by omega, Lib.hid (by have := HQ12.out; omega), by (repeat (first | assumption | (refine FS.of ?_; assumption) | (with_reducible refine FS.drew ?_) | (with_reducible refine FS.newer ?_ _) | (with_reducible refine FS.keep hb9 rfl ?_)))⟩
            case measure => have := HQ12.out; omega
        · go_wp2_with fail
          go_ret
          exact ⟨rfl, HB3.out.trans (HBR.out.pair.run.bel.mono HB3.out.size)⟩
theorem walk (acts : List GAct) (v : Value) (xt : Int) (xa : Bs) (tags : List Bs) (u : Value) (asOf m : Int) (w : World) (hr : Ready w) (hv : RowsV actG 3 w v acts) (hl : acts.length ≤ 9223372036854775807) (ha : ∀ a ∈ acts, RowsV pcells 3 w a.u a.list ∧ a.list.length ≤ 9223372036854775807) (hux : StrsV w u tags) (htl : tags.length ≤ 9223372036854775807) (h0 : 0 ≤ m) (h255 : m < 256) :
    Calls Tryz.prog 4 #[v, .agg #[.int .i64 xt, .string ⟨xa.toArray⟩, u, .int .i64 asOf, .int .u8 m]] w fun e w' => e = .returned (.bool true) ∧ Below w.heap.size w w' := by
  obtain ⟨va, vc, rfl, _⟩ := hv.form
  obtain ⟨ua, uc, rfl⟩ := hux.form
  cases hf : fitsG acts with
  | false => exact walk_big va vc acts xt xa tags ua uc asOf m w hr hv hl ha hux htl h0 h255 hf
  | true =>
    cases ht : tinyB ⟨xt, xa, tags⟩ with
    | false => exact walk_huge va vc acts xt xa tags ua uc asOf m w hr hv hl ha hux htl h0 h255 hf ht
    | true => exact walk_ok va vc acts xt xa tags ua uc asOf m w hr hv hl ha hux htl h0 h255 hf ht

/-- What the walk gives, for every argument. -/
theorem contract (H : Type) (enc : TypeId × Value → H) (W : World) (base : Nat) (args : Array Value) (ds gs : List (DataW H)) (before : List MemPlace)
    (hval : ∀ (j : Nat) t v, Tryz.f4.params[j]? = some t → args[j]? = some v → Value.okWide Tryz.prog W .any base t v)
    (hW : DataW.Whole enc Tryz.prog Tryz.f4.params.toList Rows.gateAcceptsSpec.vars false W args.toList ds gs before) (hsz : (DataW.weightsEach Tryz.prog Tryz.f4.params.toList (ds ++ gs)).all (· ≤ reachBytes) = true) (hr : Ready W) :
    Calls Tryz.prog 4 args W fun e W' => ∃ v, e = .returned v ∧ Rows.gateAcceptsSpec.post enc Tryz.prog Tryz.f4 false true false false W args v W' := by
  have hW' := hW
  have hlt := fun p hp => hW.lt p hp
  obtain ⟨p, q, hA0, hV, rfl, hfz, hnd⟩ := hW
  have hA : DataW.TrodAll enc Tryz.prog W 0 (fun _ => true) true Tryz.f4.params.toList args.toList ds p := hA0
  have hA1 := hA
  obtain ⟨rfl, rfl⟩ := trodVars_none hV
  rw [Tryz.params4] at hA hval
  obtain ⟨v0, vs0, d0, ds0, p0, q0, hargs, rfl, rfl, h0, r0⟩ := trodAll_cons hA
  obtain ⟨v1, vs1, d1, ds1, p1, q1, rfl, rfl, rfl, h1, r1⟩ := trodAll_cons r0
  obtain ⟨rfl, rfl, rfl⟩ := trodAll_nil r1
  obtain rfl : args = #[v0, v1] := by cases args; simp_all
  have fin : ∀ W', Below W.heap.size W W' → Rows.gateAcceptsSpec.post enc Tryz.prog Tryz.f4 false true false false W #[v0, v1] (.bool true) W' := fun W' hb => by
    simp only [List.append_nil] at hA1 hW' hlt
    exact ⟨_, _, _, [], _, [], hW', trodAll_cons_mk (shut_bool Tryz.underlying4 _) trodAll_mk0, Fr.trodAll_below (by kernel_rfl) _ (by kernel_rfl) hA1 hb hlt, rfl, hb.frame _, fun h => by cases h⟩
  clear hW' hA0 hA1 hlt
  rw [Tryz.params4, List.append_nil] at hsz
  obtain ⟨ua0, ul0, uc0, rfl⟩ := okWide_slice Tryz.underlying22 (hval 0 22 v0 rfl rfl)
  obtain ⟨fu0, hf0⟩ := h0
  obtain ⟨xs0, hx0, hl0, ha0⟩ := Op.gacts_trod hf0
  obtain ⟨xt, xa, tags, ux, asOf, mq, rfl, hux, htl, hq0, hq1⟩ := Op.open_q38 (hval 1 45 v1 rfl rfl) h1
  refine (walk xs0 (.slice ua0 ul0 uc0) xt xa tags ux asOf mq W hr hx0 hl0 ha0 hux htl hq0 hq1).mono fun e W' ⟨he, hb⟩ => ?_
  subst he
  exact ⟨_, rfl, fin W' hb⟩

theorem laid_met (os : Os) : laidMet Tryz.prog Rows.gateAcceptsRow.laid ((Fr.laidWorld os).forCall (fun _ _ => 0) ⟨#[], #[.slice none 0 0, .agg #[.int .i64 0, .string ⟨#[]⟩, .slice none 0 0, .int .i64 0, .int .u8 0]], []⟩).memory :=
  laidMet_of_run' 8 (by kernel_rfl) (by kernel_rfl)
theorem reads (os : Os) {H : Type} (enc : TypeId × Value → H) : ∃ places, DataW.whole enc Tryz.prog ((Fr.laidWorld os).forCall (fun _ _ => 0) ⟨#[], #[.slice none 0 0, .agg #[.int .i64 0, .string ⟨#[]⟩, .slice none 0 0, .int .i64 0, .int .u8 0]], []⟩).memory Tryz.f4.params.toList Rows.gateAcceptsSpec.vars false (#[.slice none 0 0, .agg #[.int .i64 0, .string ⟨#[]⟩, .slice none 0 0, .int .i64 0, .int .u8 0]] : Array Value).toList 8 = some ([.nil, .agg [.agg [.lit (.int .i64 0), .lit (.string []), .nil], .lit (.int .i64 0), .lit (.int .u8 0)]], [], places) :=
  ⟨[], by kernel_rfl⟩

theorem lifted (os : Os) (started : os.Started) (H : Type) (enc : TypeId × Value → H) (F : Stop.Interp) :
    ReturnsInHanded {} Tryz.checked os 4 .any ((OpenSpec.ofChange Rows.gateAcceptsSpec).preRow enc Tryz.prog Tryz.f4 Rows.gateAcceptsRow.domain false Rows.gateAcceptsRow.laid) (((OpenSpec.ofChange Rows.gateAcceptsSpec).at F).post enc Tryz.prog Tryz.f4 false true false false) := by
  obtain ⟨places, hx⟩ := reads os enc
  refine returnsInHanded_of_row (C := Tryz.checked) (s := OpenSpec.ofChange Rows.gateAcceptsSpec) Fr.own started (by kernel_rfl) Tryz.func4
    (witness_row_at (enc := enc) (C := Tryz.checked) false (Fr.laidWorld os) #[.slice none 0 0, .agg #[.int .i64 0, .string ⟨#[]⟩, .slice none 0 0, .int .i64 0, .int .u8 0]] rfl (by kernel_rfl) (by kernel_rfl) (by kernel_rfl)
      (OpenSpec.preRow_of_cond 8 hx (by kernel_rfl) (fun k hk => by cases hk) (by kernel_rfl) (laid_met os))) ?_
  intro W base args ds gs before hval hW _ hcond hsz _ hsh _
  exact contract H enc W base args ds gs before hval hW (by have h9 : (DataW.weightsEach Tryz.prog (Tryz.f4.params.toList ++ []) (ds ++ gs)).all (· ≤ reachBytes) = true := hsz; rw [List.append_nil] at h9; exact h9) (Fr.ready hsh)

theorem k_0 : Rows.gateAcceptsRow.wf (OpenSpec.ofChange (OpenSpec.ofChange Rows.gateAcceptsSpec).bare) = true := by kernel_rfl
theorem k_1 : laidOutB Tryz.prog = true := Fr.sf_laidOut
theorem k_2 : mapsRowed Tryz.prog = true := Fr.sf_mapsRowed
theorem k_3 : Tryz.f4.params.all (Tryz.prog.readableRec ·) = true := by kernel_rfl
theorem k_4 : namedTie Tryz.prog Rows.gateAcceptsRow.named (OpenSpec.ofChange Rows.gateAcceptsSpec).bare.vars = true := by kernel_rfl
theorem k_5 : (Rows.gateAcceptsRow.stops == []) = true := by kernel_rfl
theorem k_6 : (Tryz.prog.stops == []) = true := Fr.sf_stops
theorem k_7 : (Rows.gateAcceptsRow.knobs == []) = true := by kernel_rfl
theorem k_8 : (Tryz.prog.stopKnobs == []) = true := Fr.sf_stopKnobs
theorem k_9 : (Rows.gateAcceptsRow.inPlace == Tryz.prog.inPlace 4) = true := by kernel_rfl
theorem k_10 : (Rows.gateAcceptsRow.unfollowed == Tryz.prog.unfollowed 4) = true := by kernel_rfl
theorem k_11 : (Rows.gateAcceptsRow.recurses == Tryz.prog.recurses 4) = true := by kernel_rfl
theorem k_12 : (Rows.gateAcceptsRow.named == Tryz.prog.varsNamed 4) = true := by kernel_rfl
theorem k_13 : (Rows.gateAcceptsRow.maps == (Tryz.f4.params.toList ++ (OpenSpec.ofChange Rows.gateAcceptsSpec).bare.plain.varTypes Tryz.prog).any (Tryz.prog.mapsRec ·)) = true := by kernel_rfl
theorem k_14 : (Rows.gateAcceptsRow.ifaces == (Tryz.f4.params.toList ++ (OpenSpec.ofChange Rows.gateAcceptsSpec).bare.plain.varTypes Tryz.prog).any (Tryz.prog.ifacesRec ·)) = true := by kernel_rfl
theorem k_15 : (Rows.gateAcceptsRow.mapsOut == Tryz.prog.mapsAmong Tryz.f4.resultTypes.toList) = true := by kernel_rfl
theorem k_16 : (Rows.gateAcceptsRow.loops == (Tryz.f4.params.toList ++ (OpenSpec.ofChange Rows.gateAcceptsSpec).bare.plain.varTypes Tryz.prog).any (Tryz.prog.loopsFrom ·)) = true := by kernel_rfl
theorem k_17 : (Rows.gateAcceptsRow.wideKeys == (Tryz.f4.params.toList ++ (OpenSpec.ofChange Rows.gateAcceptsSpec).bare.plain.varTypes Tryz.prog ++ Tryz.f4.resultTypes.toList).any (Tryz.prog.wideKeysFrom ·)) = true := by kernel_rfl
theorem k_18 : (OpenSpec.ofChange Rows.gateAcceptsSpec).bare.vars.all (Tryz.prog.varReadable ·) = true := by kernel_rfl
theorem k_19 : Tryz.f4.resultTypes.all (fun t => Tryz.prog.readableRec t && decide (t < Tryz.prog.types.size)) = true := by kernel_rfl
theorem k_20 : (Rows.gateAcceptsRow.ifacesOut == Tryz.f4.resultTypes.toList.any (Tryz.prog.ifacesRec ·)) = true := by kernel_rfl
theorem k_21 : (Rows.gateAcceptsRow.loopsOut == Tryz.f4.resultTypes.toList.any (Tryz.prog.loopsFrom ·)) = true := by kernel_rfl
theorem k_22 : (Rows.gateAcceptsRow.plainKeys == Tryz.prog.plainKeys) = true := Fr.sf_plainKeys
theorem k_23 : Rows.gateAcceptsRow.shortTexts.isNone = true := by kernel_rfl
theorem k_24 : Tryz.prog.stopsHeard = true := Fr.sf_heard
theorem k_25 : Tryz.prog.mayEnter = true := Fr.sf_mayEnter
theorem k_26 : (Rows.gateAcceptsRow.lifted == Tryz.prog.liftsFinal) = true := Fr.sf_lifted
theorem k_27 : (Tryz.prog.make == some Rows.gateAcceptsRow.make) = true := Fr.sf_make
theorem k_28 : (Rows.gateAcceptsRow.kinds == (if Rows.gateAcceptsRow.domain.isEmpty then [] else Tryz.f4.params.toList.map fun t => match Tryz.prog.underlying t with | some (.int k) => some k | _ => none)) = true := by kernel_rfl
theorem k_29 : (Rows.gateAcceptsRow.pinned == Rows.gateAcceptsRow.pinnedBy) = true := by kernel_rfl
theorem k_30 : (Rows.gateAcceptsRow.veiled == (Tryz.f4.params.toList ++ (OpenSpec.ofChange Rows.gateAcceptsSpec).bare.plain.varTypes Tryz.prog ++ Tryz.f4.resultTypes.toList).any (Tryz.prog.veiledRec ·)) = true := by kernel_rfl
theorem k_31 : Rows.gateAcceptsRow.veiledFits Tryz.prog Tryz.f4.params.toList (Tryz.f4.params.toList ++ (OpenSpec.ofChange Rows.gateAcceptsSpec).bare.plain.varTypes Tryz.prog ++ Tryz.f4.resultTypes.toList) = true := by kernel_rfl
theorem closed : joinedFacts Tryz.prog 4 Tryz.f4 (OpenSpec.ofChange Rows.gateAcceptsSpec).bare Rows.gateAcceptsRow = true := Op.andT (Op.andT (Op.andT (Op.andT (Op.andT (Op.andT (Op.andT (Op.andT (Op.andT (Op.andT (Op.andT (Op.andT (Op.andT (Op.andT (Op.andT (Op.andT (Op.andT (Op.andT (Op.andT (Op.andT (Op.andT (Op.andT (Op.andT (Op.andT (Op.andT (Op.andT (Op.andT (Op.andT (Op.andT (Op.andT (Op.andT (k_0) k_1) k_2) k_3) k_4) k_5) k_6) k_7) k_8) k_9) k_10) k_11) k_12) k_13) k_14) k_15) k_16) k_17) k_18) k_19) k_20) k_21) k_22) k_23) k_24) k_25) k_26) k_27) k_28) k_29) k_30) k_31

theorem said : Rows.GateAcceptsSaid :=
  OpenClaim.holds_of_cond 4 Tryz.f4 rfl rfl rfl rfl rfl rfl rfl ⟨rfl, rfl, rfl, rfl, rfl⟩ rfl rfl rfl rfl rfl (by kernel_rfl) Tryz.func4 closed
    (of_decide_eq_true (by kernel_rfl)) (by unfold Func.isWrapper; first | (rw [if_pos (by decide +kernel)]; kernel_rfl) | (rw [if_neg (by decide +kernel)]; exact ⟨rfl, rfl⟩))
    (fun os started H enc _ F => by rw [OpenClaim.pre_eq_preRow]; exact lifted os started H enc F)

theorem plain (b : Bool) (hb : b = Tryz.pinned.checked.prog.looks []) (f : FuncId) (fn : Func) (hf : Tryz.pinned.checked.prog.funcNamed "quayside/quaysidelaw38.GateAccepts" = some f) (hfn : Tryz.pinned.checked.prog.funcs[f]? = some fn) :
    b = Tryz.pinned.checked.prog.looks [] ∧ ∀ (j : Nat) t, fn.params[j]? = some t → Tryz.pinned.checked.prog.wantsStandIn t = false := by
  obtain rfl : f = 4 := Option.some.inj ((show Tryz.prog.funcNamed "quayside/quaysidelaw38.GateAccepts" = some 4 by kernel_rfl).symm.trans hf) |>.symm
  obtain rfl : fn = Tryz.f4 := (Option.some.inj (Tryz.func4.symm.trans hfn)).symm
  refine ⟨hb, fun j t ht => ?_⟩
  rw [Tryz.params4] at ht
  have hm : t ∈ [22, 45] := by simpa using Array.mem_of_getElem? ht
  have hall : ([22, 45].all fun u => !Tryz.prog.wantsStandIn u) = true := by kernel_rfl
  exact (show Tryz.prog.wantsStandIn t = false by simpa using List.all_eq_true.1 hall t hm)

theorem proved : Rows.GateAcceptsCardSaid :=
  Claim7.holds_tied_plain_at .later [] _ _ _ _ said (fun _ h => by cases h) (by kernel_rfl) (fun _ h => by cases h) gateAccepts_row_tie rfl ⟨rfl, rfl⟩ (by kernel_rfl) rfl (plain _ (by kernel_rfl)) (by kernel_rfl)
#print axioms proved
end Go.Proofs.YtnppicekfjdefaaGreatDoor.lawGateAccepts
