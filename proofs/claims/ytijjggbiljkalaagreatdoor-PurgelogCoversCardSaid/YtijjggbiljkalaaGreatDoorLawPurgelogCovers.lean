/- PROVED: PurgelogCovers returns true for every input and leaves its arguments as they were. No condition beyond the statement's own (the listed variables read as the program's text lays them, which the card ties). -/
import Derived.Test.YtijjggbiljkalaaGreatDoorFrame
import Derived.Test.YtijjggbiljkalaaGreatDoorClosed
import Derived.Test.YtijjggbiljkalaaGreatDoorPlogI
import Derived.Test.YtijjggbiljkalaaGreatDoorPlogW
import Derived.Test.YtijjggbiljkalaaGreatDoorOpenQ
namespace Go.Proofs.YtijjggbiljkalaaGreatDoor.lawPurgelogCovers
open Go.ChangeShapes Go.WideShapes Go.ChangeAt Go.RowKit Pl Ad A1
open Go.ChangeMaps (open_string shut_string)
attribute [local go_sem] ba_get conv_one conv_one_drewN ba_append ba_extract
set_option maxRecDepth 100000
set_option maxHeartbeats 4000000
set_option linter.unusedVariables false

def tinyB (x : It) : Bool := decide (x.tags.length ≤ 40) && decide (x.addr.length ≤ 1200)

theorem cov_pos {L : LogM} {x : It} {n : Int} : (L.covB x n = true → 0 < L.covN x n) ∧ (L.covB x n = false → L.covN x n = 0) := by
  cases h : LogM.hit x (L.since n) with
  | some k =>
    obtain ⟨h1, h2⟩ := cov_some h
    have hl : 0 < (L.since n).length := by
      cases hs : L.since n with
      | nil => rw [hs] at h; cases h
      | cons p r => simp
    have := since_pos hl
    exact ⟨(fun _ => by rw [h1]; omega), (fun hf => by rw [h2] at hf; cases hf)⟩
  | none =>
    obtain ⟨h1, h2⟩ := cov_none h
    exact ⟨(fun hf => by rw [h2] at hf; cases hf), (fun _ => h1)⟩

/-- The question's variable. -/
def QBox (w : World) (R : Nat) (xt : Int) (xa : Bs) (u : Value) (n m : Int) : Prop := w.heap[R]? = some (.cells #[.int .i64 xt, .string ⟨xa.toArray⟩, u, .int .i64 n, .int .u8 m] 27 (0, 0))
theorem QBox.facts {w : World} {R : Nat} {xt : Int} {xa : Bs} {u : Value} {n m : Int} (h : QBox w R xt xa u n m) :
    (w.cell? ⟨R, 0, none⟩ = some (.int .i64 xt) ∧ w.cell? ⟨R, 1, none⟩ = some (.string ⟨xa.toArray⟩) ∧ w.cell? ⟨R, 2, none⟩ = some u ∧ w.cell? ⟨R, 3, none⟩ = some (.int .i64 n) ∧ w.cell? ⟨R, 4, none⟩ = some (.int .u8 m)) ∧ R < w.heap.size :=
  ⟨⟨by rw [cell_of_row w R 0 _ _ _ h]; rfl, by rw [cell_of_row w R 1 _ _ _ h]; rfl, by rw [cell_of_row w R 2 _ _ _ h]; rfl, by rw [cell_of_row w R 3 _ _ _ h]; rfl, by rw [cell_of_row w R 4 _ _ _ h]; rfl⟩, (Array.getElem?_eq_some_iff.1 h).1⟩
theorem QBox.older {w w' : World} {R : Nat} {xt : Int} {xa : Bs} {u : Value} {n m : Int} (h : QBox w R xt xa u n m) (hb : Below w.heap.size w w') : QBox w' R xt xa u n m := (hb.block R h.facts.2).trans h
theorem tiny37_any (xt : Int) (xa : Bs) (tags : List Bs) (ua : Option Addr) (uc : Nat) (w : World) (htl : tags.length ≤ 9223372036854775807) :
    Calls Tryz.prog 8 #[.agg #[.int .i64 xt, .string ⟨xa.toArray⟩, .slice ua tags.length uc]] w fun e w' => e = .returned (.bool (tinyB ⟨xt, xa, tags⟩)) ∧ Below w.heap.size w w' := by
  by_cases h1 : tags.length ≤ 40
  · have HT := Lib.hid (show tinyB ⟨xt, xa, tags⟩ = decide (xa.length ≤ 1200) by unfold tinyB; simp only; rw [decide_eq_true h1]; rfl)
    have HD := Lib.hid (show decide ((xa.length : Int) ≤ 1200) = decide (xa.length ≤ 1200) by rw [decide_eq_decide]; omega)
    go_enter Tryz.func8, Tryz.ntmps8
    go_wp2
    go_ret
    exact ⟨ret_bool' (by rw [HT.out, ← HD.out]), (Below.refl _ _).alloc (Nat.le_refl _) _⟩
  · have HT := Lib.hid (show tinyB ⟨xt, xa, tags⟩ = false by unfold tinyB; simp only; rw [decide_eq_false h1]; rfl)
    have hd : decide ((tags.length : Int) ≤ 40) = false := decide_eq_false (by omega)
    go_enter Tryz.func8, Tryz.ntmps8
    go_wp2
    go_ret
    exact ⟨ret_bool' HT.out.symm, (Below.refl _ _).alloc (Nat.le_refl _) _⟩
theorem walk_big (va : Option Addr) (vc : Nat) (acts : List LAct) (xt : Int) (xa : Bs) (tags : List Bs) (ua : Option Addr) (uc : Nat) (asOf m : Int) (w : World) (hr : Ready w) (hv : RowsV actC 5 w (.slice va acts.length vc) acts) (hl : acts.length ≤ 9223372036854775807) (hux : StrsV w (.slice ua tags.length uc) tags) (htl : tags.length ≤ 9223372036854775807) (h0 : 0 ≤ m) (h255 : m < 256) (hf : fitsA acts = false) :
    Calls Tryz.prog 3 #[.slice va acts.length vc, .agg #[.int .i64 xt, .string ⟨xa.toArray⟩, (.slice ua tags.length uc), .int .i64 asOf, .int .u8 m]] w fun e w' => e = .returned (.bool true) ∧ Below w.heap.size w w' := by
  have hb0 := (Below.refl w.heap.size w).alloc (Nat.le_refl _) (.cells #[.int .i64 xt, .string ⟨xa.toArray⟩, (.slice ua tags.length uc), .int .i64 asOf, .int .u8 m] 27)
  have HB0 := Lib.hid hb0
  have HQ0 : Hid (QBox (w.alloc (.cells #[.int .i64 xt, .string ⟨xa.toArray⟩, (.slice ua tags.length uc), .int .i64 asOf, .int .u8 m] 27)) w.heap.size xt xa (.slice ua tags.length uc) asOf m) := Lib.hid (heap_alloc_new w _)
  have HV := Lib.hid hv
  have HU := Lib.hid hux
  have HRA : Hid (∀ w', Below w.heap.size w w' → Ready w') := Lib.hid fun w' hb => hr.below hb
  clear hb0 hv hux
  have HF := Lib.hid hf
  clear hf
  go_enter Tryz.func3, Tryz.ntmps3
  go_wp2_with fail
  refine (awake37_any _ (HRA.out _ HB0.out)).mono ?_
  rintro e w1 ⟨rfl, hb1⟩
  have HB1 := Lib.hid (HB0.out.trans (hb1.mono HB0.out.size))
  have HQ1 := Lib.hid (HQ0.out.older hb1)
  obtain ⟨⟨d0, d1, d2, d3, d4⟩, hzq⟩ := HQ1.out.facts
  clear hb1
  go_wp2_with (first | (go_at_call 7; refine (fits37_any (.slice va acts.length vc) acts _ (HV.out.below HB1.out) hl).mono ?_; rw [HF.out]; rintro e w2 ⟨rfl, rfl⟩) | (go_at_call 6; refine (awake37_any _ (HRA.out _ HB1.out)).mono ?_; rintro e w3 ⟨rfl, hb3⟩))
  go_ret
  exact ⟨rfl, HB1.out.trans (hb3.mono HB1.out.size)⟩
theorem walk_huge (va : Option Addr) (vc : Nat) (acts : List LAct) (xt : Int) (xa : Bs) (tags : List Bs) (ua : Option Addr) (uc : Nat) (asOf m : Int) (w : World) (hr : Ready w) (hv : RowsV actC 5 w (.slice va acts.length vc) acts) (hl : acts.length ≤ 9223372036854775807) (hux : StrsV w (.slice ua tags.length uc) tags) (htl : tags.length ≤ 9223372036854775807) (h0 : 0 ≤ m) (h255 : m < 256) (hf : fitsA acts = true) (ht : tinyB ⟨xt, xa, tags⟩ = false) :
    Calls Tryz.prog 3 #[.slice va acts.length vc, .agg #[.int .i64 xt, .string ⟨xa.toArray⟩, (.slice ua tags.length uc), .int .i64 asOf, .int .u8 m]] w fun e w' => e = .returned (.bool true) ∧ Below w.heap.size w w' := by
  have hb0 := (Below.refl w.heap.size w).alloc (Nat.le_refl _) (.cells #[.int .i64 xt, .string ⟨xa.toArray⟩, (.slice ua tags.length uc), .int .i64 asOf, .int .u8 m] 27)
  have HB0 := Lib.hid hb0
  have HQ0 : Hid (QBox (w.alloc (.cells #[.int .i64 xt, .string ⟨xa.toArray⟩, (.slice ua tags.length uc), .int .i64 asOf, .int .u8 m] 27)) w.heap.size xt xa (.slice ua tags.length uc) asOf m) := Lib.hid (heap_alloc_new w _)
  have HV := Lib.hid hv
  have HU := Lib.hid hux
  have HRA : Hid (∀ w', Below w.heap.size w w' → Ready w') := Lib.hid fun w' hb => hr.below hb
  clear hb0 hv hux
  have HF := Lib.hid hf
  have HT := Lib.hid ht
  clear hf ht
  go_enter Tryz.func3, Tryz.ntmps3
  go_wp2_with fail
  refine (awake37_any _ (HRA.out _ HB0.out)).mono ?_
  rintro e w1 ⟨rfl, hb1⟩
  have HB1 := Lib.hid (HB0.out.trans (hb1.mono HB0.out.size))
  have HQ1 := Lib.hid (HQ0.out.older hb1)
  obtain ⟨⟨d0, d1, d2, d3, d4⟩, hzq⟩ := HQ1.out.facts
  clear hb1
  go_wp2_with (first | (go_at_call 7; refine (fits37_any (.slice va acts.length vc) acts _ (HV.out.below HB1.out) hl).mono ?_; rw [HF.out]; rintro e w2 ⟨rfl, rfl⟩) | (go_at_call 8; refine (tiny37_any xt xa tags ua uc _ htl).mono ?_; rw [HT.out]; rintro e w3 ⟨rfl, hb3⟩; have HB3 := Lib.hid (HB1.out.trans (hb3.mono HB1.out.size)); have HQ3 := Lib.hid (HQ1.out.older hb3); clear hb3 d0 d1 d2 d3 d4; obtain ⟨⟨d0, d1, d2, d3, d4⟩, hz3⟩ := HQ3.out.facts) | (go_at_call 6; refine (awake37_any _ (HRA.out _ HB3.out)).mono ?_; rintro e w4 ⟨rfl, hb4⟩))
  go_ret
  exact ⟨rfl, HB3.out.trans (hb4.mono HB3.out.size)⟩
theorem walk_ok (va : Option Addr) (vc : Nat) (acts : List LAct) (xt : Int) (xa : Bs) (tags : List Bs) (ua : Option Addr) (uc : Nat) (asOf m : Int) (w : World) (hr : Ready w) (hv : RowsV actC 5 w (.slice va acts.length vc) acts) (hl : acts.length ≤ 9223372036854775807) (hux : StrsV w (.slice ua tags.length uc) tags) (htl : tags.length ≤ 9223372036854775807) (h0 : 0 ≤ m) (h255 : m < 256) (hf : fitsA acts = true) (ht : tinyB ⟨xt, xa, tags⟩ = true) :
    Calls Tryz.prog 3 #[.slice va acts.length vc, .agg #[.int .i64 xt, .string ⟨xa.toArray⟩, (.slice ua tags.length uc), .int .i64 asOf, .int .u8 m]] w fun e w' => e = .returned (.bool true) ∧ Below w.heap.size w w' := by
  have hb0 := (Below.refl w.heap.size w).alloc (Nat.le_refl _) (.cells #[.int .i64 xt, .string ⟨xa.toArray⟩, (.slice ua tags.length uc), .int .i64 asOf, .int .u8 m] 27)
  have HB0 := Lib.hid hb0
  have HQ0 : Hid (QBox (w.alloc (.cells #[.int .i64 xt, .string ⟨xa.toArray⟩, (.slice ua tags.length uc), .int .i64 asOf, .int .u8 m] 27)) w.heap.size xt xa (.slice ua tags.length uc) asOf m) := Lib.hid (heap_alloc_new w _)
  have HV := Lib.hid hv
  have HU := Lib.hid hux
  have HRA : Hid (∀ w', Below w.heap.size w w' → Ready w') := Lib.hid fun w' hb => hr.below hb
  clear hb0 hv hux
  have hl60 := (fitsA_true hf).2
  have HA := Lib.hid (fitsA_true hf).1
  have HF := Lib.hid hf
  have HT := Lib.hid ht
  have htt : tags.length ≤ 40 ∧ xa.length ≤ 1200 := by unfold tinyB at ht; simpa using ht
  have hxl : xa.length ≤ 134217728 := by omega
  have htl4 : tags.length ≤ 40 := htt.1
  obtain ⟨k, hk⟩ : ∃ k : Nat, 1 + m % 24 = (k : Int) := ⟨(1 + m % 24).toNat, by omega⟩
  have hk1 : 1 ≤ k := by omega
  have hk2 : k ≤ 24 := by omega
  have HK := Lib.hid hk
  have HRY := Lib.hid hr
  obtain ⟨L3, hL3⟩ : ∃ L3, (LogM.start k).play acts = L3 := ⟨_, rfl⟩
  have hlen := play_len (LogM.start k) acts acts.length
  rw [List.take_of_length_le (Nat.le_refl _), show (LogM.start k).all.length = 0 from rfl, hL3] at hlen
  have HL3 := Lib.hid hL3
  clear hf ht hk htt hL3
  go_enter Tryz.func3, Tryz.ntmps3
  go_wp2_with fail
  refine (awake37_any _ (HRA.out _ HB0.out)).mono ?_
  rintro e w1 ⟨rfl, hb1⟩
  have HB1 := Lib.hid (HB0.out.trans (hb1.mono HB0.out.size))
  have HQ1 := Lib.hid (HQ0.out.older hb1)
  obtain ⟨⟨d0, d1, d2, d3, d4⟩, hzq⟩ := HQ1.out.facts
  clear hb1
  go_wp2_with (first | (go_at_call 7; refine (fits37_any (.slice va acts.length vc) acts _ (HV.out.below HB1.out) hl).mono ?_; rw [HF.out]; rintro e w2 ⟨rfl, rfl⟩) | (go_at_call 8; refine (tiny37_any xt xa tags ua uc _ htl).mono ?_; rw [HT.out]; rintro e w3 ⟨rfl, hb3⟩; have HB3 := Lib.hid (HB1.out.trans (hb3.mono HB1.out.size)); have HQ3 := Lib.hid (HQ1.out.older hb3); clear hb3 d0 d1 d2 d3 d4; obtain ⟨⟨d0, d1, d2, d3, d4⟩, hz3⟩ := HQ3.out.facts))
  go_wp2_with (go_at_call 10; refine (window37_any m _ h0 h255).mono ?_; rw [HK.out]; rintro e w' ⟨rfl, rfl⟩)
  refine (plogNew_ok k _ (by omega) (by omega)).mono ?_
  rintro e w2 ⟨rfl, rfl⟩
  have HR := Lib.hid (show Run w3 _ w3.heap.size (.slice none 0 0) (.start k) from ⟨((Below.refl _ _).alloc (Nat.le_refl _) _), logAt_new w3 k w3.heap.size (Nat.le_refl _), LogM.ok_start hk1 (by omega)⟩)
  have HV3 := Lib.hid (HV.out.below HB3.out)
  have HU3 := Lib.hid (HU.out.below HB3.out)
  have HRY3 := Lib.hid (HRA.out _ HB3.out)
  go_wp2_with (go_at_call 10; refine (window37_any m _ h0 h255).mono ?_; rw [HK.out]; rintro e w' ⟨rfl, rfl⟩)
  refine (play_any w3 _ w3.heap.size (.slice none 0 0) (.slice va acts.length vc) (.slice none 0 0) (LogM.start k) acts HR.out (OwnWin.nil _ _ _ _) HRY3.out HV3.out HA.out (by show 0 + acts.length ≤ 1000000; omega)).mono ?_
  rw [HL3.out]
  rintro e w4 ⟨v4, u4, rfl, hr4, hu4, hg4⟩
  obtain ⟨ra, rc, rfl, _⟩ := OwnWin.form hu4
  have hal := (Below.refl w4.heap.size w4).alloc (Nat.le_refl _) (.cells #[.slice ra L3.all.length rc, .int .i64 L3.dropped, .int .i64 L3.win] 39)
  have HR5 := Lib.hid (hr4.older hal)
  have HO5 := Lib.hid (RefOwn.older hu4 hal)
  have HX5 := Lib.hid (box3_new w4 39 (.slice ra L3.all.length rc) (.int .i64 L3.dropped) (.int .i64 L3.win))
  clear d0 d1 d2 d3 d4
  obtain ⟨⟨d0, d1, d2, d3, d4⟩, hz4⟩ := (HQ3.out.older hr4.bel).facts
  clear hr4 hu4 hg4 hal
  go_wp2_with (go_at_call 12; refine (item36_any xt xa _ tags _ (HU3.out.below HR5.out.bel) (by omega)).mono ?_; rintro e w6 ⟨nv, rfl, hnv, hb6⟩; obtain ⟨na, nc, rfl⟩ := hnv.form; have HR6 := Lib.hid (HR5.out.older hb6); have HO6 := Lib.hid (RefOwn.older HO5.out hb6); have HX6 := Lib.hid (HX5.out.older hb6); have HN6 := Lib.hid hnv; clear hb6 hnv d0 d1 d2 d3 d4; obtain ⟨⟨d0, d1, d2, d3, d4⟩, hz6⟩ := (HQ3.out.older HR6.out.bel).facts)
  have hal6 := (Below.refl w6.heap.size w6).alloc (Nat.le_refl _) (.cells #[.int .i64 xt, .string ⟨xa.toArray⟩, .slice na tags.length nc] 42)
  have HR7 := Lib.hid (HR6.out.older hal6)
  have HO7 := Lib.hid (RefOwn.older HO6.out hal6)
  have HX7 := Lib.hid (HX6.out.older hal6)
  have HN7 := Lib.hid (HN6.out.below hal6)
  clear hal6
  obtain ⟨f, hf⟩ : ∃ f, L3.covB ⟨xt, xa, tags⟩ asOf = f := ⟨_, rfl⟩
  obtain ⟨N, hN⟩ : ∃ N, L3.covN ⟨xt, xa, tags⟩ asOf = N := ⟨_, rfl⟩
  obtain ⟨sc, hsc⟩ : ∃ sc, L3.sinceC asOf = sc := ⟨_, rfl⟩
  have hp := cov_pos (L := L3) (x := ⟨xt, xa, tags⟩) (n := asOf)
  rw [hf, hN] at hp
  have HP := Lib.hid hp
  have H3 := Lib.hid hf
  have H37 := Lib.hid hN
  have HSC := Lib.hid hsc
  clear hf hN hsc hp
  refine (covered_any w3.heap.size w3.heap.size v4 L3 xt xa tags (.slice na tags.length nc) asOf _ HR7.out.log HR7.out.ok (by omega) (HRY3.out.below HR7.out.bel) hxl HN7.out htl).mono ?_
  rw [H3.out, H37.out, HSC.out]
  rintro e w7 ⟨rfl, hb7⟩
  have HR8 := Lib.hid (HR7.out.older hb7)
  have HO8 := Lib.hid (RefOwn.older HO7.out hb7)
  have HX8 := Lib.hid (HX7.out.older hb7)
  clear hb7 d0 d1 d2 d3 d4
  obtain ⟨⟨d0, d1, d2, d3, d4⟩, hz7⟩ := (HQ3.out.older HR8.out.bel).facts
  obtain ⟨⟨c0, c1, c2⟩, _, hz8⟩ := HX8.out.facts
  go_wp2_with fail
  refine (refCov_any w3.heap.size (.slice ra L3.all.length rc) L3 xt xa tags (.slice ua tags.length uc) asOf _ HO8.out HR8.out.ok (by omega) hxl (HU3.out.below HR8.out.bel) htl).mono ?_
  rw [H37.out, HSC.out]
  rintro e w8 ⟨rfl, hb8⟩
  have HR9 := Lib.hid (HR8.out.older hb8)
  clear hb8
  cases f with
  | true =>
    have hpos := HP.out.1 rfl
    go_wp2_with (go_at_call 15; refine (num_codeV sc _).mono ?_; rintro e w' ⟨rfl, rfl⟩)
    go_ret
    exact ⟨rfl, HB3.out.trans (HR9.out.bel.mono HB3.out.size)⟩
  | false =>
    obtain rfl := HP.out.2 rfl
    go_wp2_with (go_at_call 15; refine (num_codeV sc _).mono ?_; rintro e w' ⟨rfl, rfl⟩)
    go_ret
    exact ⟨rfl, HB3.out.trans (HR9.out.bel.mono HB3.out.size)⟩
theorem walk (acts : List LAct) (v : Value) (xt : Int) (xa : Bs) (tags : List Bs) (u : Value) (asOf m : Int) (w : World) (hr : Ready w) (hv : RowsV actC 5 w v acts) (hl : acts.length ≤ 9223372036854775807) (hux : StrsV w u tags) (htl : tags.length ≤ 9223372036854775807) (h0 : 0 ≤ m) (h255 : m < 256) :
    Calls Tryz.prog 3 #[v, .agg #[.int .i64 xt, .string ⟨xa.toArray⟩, u, .int .i64 asOf, .int .u8 m]] w fun e w' => e = .returned (.bool true) ∧ Below w.heap.size w w' := by
  obtain ⟨va, vc, rfl, _⟩ := hv.form
  obtain ⟨ua, uc, rfl⟩ := hux.form
  cases hf : fitsA acts with
  | false => exact walk_big va vc acts xt xa tags ua uc asOf m w hr hv hl hux htl h0 h255 hf
  | true =>
    cases ht : tinyB ⟨xt, xa, tags⟩ with
    | false => exact walk_huge va vc acts xt xa tags ua uc asOf m w hr hv hl hux htl h0 h255 hf ht
    | true => exact walk_ok va vc acts xt xa tags ua uc asOf m w hr hv hl hux htl h0 h255 hf ht

/-- What the walk gives, for every argument. -/
theorem contract (H : Type) (enc : TypeId × Value → H) (W : World) (base : Nat) (args : Array Value) (ds gs : List (DataW H)) (before : List MemPlace)
    (hval : ∀ (j : Nat) t v, Tryz.f3.params[j]? = some t → args[j]? = some v → Value.okWide Tryz.prog W .any base t v)
    (hW : DataW.Whole enc Tryz.prog Tryz.f3.params.toList Rows.purgelogCoversSpec.vars false W args.toList ds gs before) (hsz : (DataW.weightsEach Tryz.prog Tryz.f3.params.toList (ds ++ gs)).all (· ≤ reachBytes) = true) (hr : Ready W) :
    Calls Tryz.prog 3 args W fun e W' => ∃ v, e = .returned v ∧ Rows.purgelogCoversSpec.post enc Tryz.prog Tryz.f3 false true false false W args v W' := by
  have hW' := hW
  have hlt := fun p hp => hW.lt p hp
  obtain ⟨p, q, hA0, hV, rfl, hfz, hnd⟩ := hW
  have hA : DataW.TrodAll enc Tryz.prog W 0 (fun _ => true) true Tryz.f3.params.toList args.toList ds p := hA0
  have hA1 := hA
  obtain ⟨rfl, rfl⟩ := trodVars_none hV
  rw [Tryz.params3] at hA hval
  obtain ⟨v0, vs0, d0, ds0, p0, q0, hargs, rfl, rfl, h0, r0⟩ := trodAll_cons hA
  obtain ⟨v1, vs1, d1, ds1, p1, q1, rfl, rfl, rfl, h1, r1⟩ := trodAll_cons r0
  obtain ⟨rfl, rfl, rfl⟩ := trodAll_nil r1
  obtain rfl : args = #[v0, v1] := by cases args; simp_all
  have fin : ∀ W', Below W.heap.size W W' → Rows.purgelogCoversSpec.post enc Tryz.prog Tryz.f3 false true false false W #[v0, v1] (.bool true) W' := fun W' hb => by
    simp only [List.append_nil] at hA1 hW' hlt
    exact ⟨_, _, _, [], _, [], hW', trodAll_cons_mk (shut_bool Tryz.underlying4 _) trodAll_mk0, Fr.trodAll_below (by kernel_rfl) _ (by kernel_rfl) hA1 hb hlt, rfl, hb.frame _, fun h => by cases h⟩
  clear hW' hA0 hA1 hlt
  rw [Tryz.params3, List.append_nil] at hsz
  obtain ⟨ua0, ul0, uc0, rfl⟩ := okWide_slice Tryz.underlying22 (hval 0 22 v0 rfl rfl)
  obtain ⟨fu0, hf0⟩ := h0
  obtain ⟨xs0, hx0, hl0, _⟩ := Op.open_rows (R := actC) (k := 5) (fun _ => True) Tryz.underlying22 (by kernel_rfl) (by decide) (fun n cs y hl h => Op.act_trod hl h) hf0
  obtain ⟨xt, xa, tags, ux, asOf, mq, rfl, hux, htl, hq0, hq1⟩ := Op.open_q37 (hval 1 27 v1 rfl rfl) h1
  refine (walk xs0 (.slice ua0 ul0 uc0) xt xa tags ux asOf mq W hr hx0 hl0 hux htl hq0 hq1).mono fun e W' ⟨he, hb⟩ => ?_
  subst he
  exact ⟨_, rfl, fin W' hb⟩

theorem laid_met (os : Os) : laidMet Tryz.prog Rows.purgelogCoversRow.laid ((Fr.laidWorld os).forCall (fun _ _ => 0) ⟨#[], #[.slice none 0 0, .agg #[.int .i64 0, .string ⟨#[]⟩, .slice none 0 0, .int .i64 0, .int .u8 0]], []⟩).memory :=
  laidMet_of_run' 8 (by kernel_rfl) (by kernel_rfl)
theorem reads (os : Os) {H : Type} (enc : TypeId × Value → H) : ∃ places, DataW.whole enc Tryz.prog ((Fr.laidWorld os).forCall (fun _ _ => 0) ⟨#[], #[.slice none 0 0, .agg #[.int .i64 0, .string ⟨#[]⟩, .slice none 0 0, .int .i64 0, .int .u8 0]], []⟩).memory Tryz.f3.params.toList Rows.purgelogCoversSpec.vars false (#[.slice none 0 0, .agg #[.int .i64 0, .string ⟨#[]⟩, .slice none 0 0, .int .i64 0, .int .u8 0]] : Array Value).toList 8 = some ([.nil, .agg [.agg [.lit (.int .i64 0), .lit (.string []), .nil], .lit (.int .i64 0), .lit (.int .u8 0)]], [], places) :=
  ⟨[], by kernel_rfl⟩

theorem lifted (os : Os) (started : os.Started) (H : Type) (enc : TypeId × Value → H) (F : Stop.Interp) :
    ReturnsInHanded {} Tryz.checked os 3 .any ((OpenSpec.ofChange Rows.purgelogCoversSpec).preRow enc Tryz.prog Tryz.f3 Rows.purgelogCoversRow.domain false Rows.purgelogCoversRow.laid) (((OpenSpec.ofChange Rows.purgelogCoversSpec).at F).post enc Tryz.prog Tryz.f3 false true false false) := by
  obtain ⟨places, hx⟩ := reads os enc
  refine returnsInHanded_of_row (C := Tryz.checked) (s := OpenSpec.ofChange Rows.purgelogCoversSpec) Fr.own started (by kernel_rfl) Tryz.func3
    (witness_row_at (enc := enc) (C := Tryz.checked) false (Fr.laidWorld os) #[.slice none 0 0, .agg #[.int .i64 0, .string ⟨#[]⟩, .slice none 0 0, .int .i64 0, .int .u8 0]] rfl (by kernel_rfl) (by kernel_rfl) (by kernel_rfl)
      (OpenSpec.preRow_of_cond 8 hx (by kernel_rfl) (fun k hk => by cases hk) (by kernel_rfl) (laid_met os))) ?_
  intro W base args ds gs before hval hW _ hcond hsz _ hsh _
  exact contract H enc W base args ds gs before hval hW (by have h9 : (DataW.weightsEach Tryz.prog (Tryz.f3.params.toList ++ []) (ds ++ gs)).all (· ≤ reachBytes) = true := hsz; rw [List.append_nil] at h9; exact h9) (Fr.ready hsh)

theorem k_0 : Rows.purgelogCoversRow.wf (OpenSpec.ofChange (OpenSpec.ofChange Rows.purgelogCoversSpec).bare) = true := by kernel_rfl
theorem k_1 : laidOutB Tryz.prog = true := Fr.sf_laidOut
theorem k_2 : mapsRowed Tryz.prog = true := Fr.sf_mapsRowed
theorem k_3 : Tryz.f3.params.all (Tryz.prog.readableRec ·) = true := by kernel_rfl
theorem k_4 : namedTie Tryz.prog Rows.purgelogCoversRow.named (OpenSpec.ofChange Rows.purgelogCoversSpec).bare.vars = true := by kernel_rfl
theorem k_5 : (Rows.purgelogCoversRow.stops == []) = true := by kernel_rfl
theorem k_6 : (Tryz.prog.stops == []) = true := Fr.sf_stops
theorem k_7 : (Rows.purgelogCoversRow.knobs == []) = true := by kernel_rfl
theorem k_8 : (Tryz.prog.stopKnobs == []) = true := Fr.sf_stopKnobs
theorem k_9 : (Rows.purgelogCoversRow.inPlace == Tryz.prog.inPlace 3) = true := by kernel_rfl
theorem k_10 : (Rows.purgelogCoversRow.unfollowed == Tryz.prog.unfollowed 3) = true := by kernel_rfl
theorem k_11 : (Rows.purgelogCoversRow.recurses == Tryz.prog.recurses 3) = true := by kernel_rfl
theorem k_12 : (Rows.purgelogCoversRow.named == Tryz.prog.varsNamed 3) = true := by kernel_rfl
theorem k_13 : (Rows.purgelogCoversRow.maps == (Tryz.f3.params.toList ++ (OpenSpec.ofChange Rows.purgelogCoversSpec).bare.plain.varTypes Tryz.prog).any (Tryz.prog.mapsRec ·)) = true := by kernel_rfl
theorem k_14 : (Rows.purgelogCoversRow.ifaces == (Tryz.f3.params.toList ++ (OpenSpec.ofChange Rows.purgelogCoversSpec).bare.plain.varTypes Tryz.prog).any (Tryz.prog.ifacesRec ·)) = true := by kernel_rfl
theorem k_15 : (Rows.purgelogCoversRow.mapsOut == Tryz.prog.mapsAmong Tryz.f3.resultTypes.toList) = true := by kernel_rfl
theorem k_16 : (Rows.purgelogCoversRow.loops == (Tryz.f3.params.toList ++ (OpenSpec.ofChange Rows.purgelogCoversSpec).bare.plain.varTypes Tryz.prog).any (Tryz.prog.loopsFrom ·)) = true := by kernel_rfl
theorem k_17 : (Rows.purgelogCoversRow.wideKeys == (Tryz.f3.params.toList ++ (OpenSpec.ofChange Rows.purgelogCoversSpec).bare.plain.varTypes Tryz.prog ++ Tryz.f3.resultTypes.toList).any (Tryz.prog.wideKeysFrom ·)) = true := by kernel_rfl
theorem k_18 : (OpenSpec.ofChange Rows.purgelogCoversSpec).bare.vars.all (Tryz.prog.varReadable ·) = true := by kernel_rfl
theorem k_19 : Tryz.f3.resultTypes.all (fun t => Tryz.prog.readableRec t && decide (t < Tryz.prog.types.size)) = true := by kernel_rfl
theorem k_20 : (Rows.purgelogCoversRow.ifacesOut == Tryz.f3.resultTypes.toList.any (Tryz.prog.ifacesRec ·)) = true := by kernel_rfl
theorem k_21 : (Rows.purgelogCoversRow.loopsOut == Tryz.f3.resultTypes.toList.any (Tryz.prog.loopsFrom ·)) = true := by kernel_rfl
theorem k_22 : (Rows.purgelogCoversRow.plainKeys == Tryz.prog.plainKeys) = true := Fr.sf_plainKeys
theorem k_23 : Rows.purgelogCoversRow.shortTexts.isNone = true := by kernel_rfl
theorem k_24 : Tryz.prog.stopsHeard = true := Fr.sf_heard
theorem k_25 : Tryz.prog.mayEnter = true := Fr.sf_mayEnter
theorem k_26 : (Rows.purgelogCoversRow.lifted == Tryz.prog.liftsFinal) = true := Fr.sf_lifted
theorem k_27 : (Tryz.prog.make == some Rows.purgelogCoversRow.make) = true := Fr.sf_make
theorem k_28 : (Rows.purgelogCoversRow.kinds == (if Rows.purgelogCoversRow.domain.isEmpty then [] else Tryz.f3.params.toList.map fun t => match Tryz.prog.underlying t with | some (.int k) => some k | _ => none)) = true := by kernel_rfl
theorem k_29 : (Rows.purgelogCoversRow.pinned == Rows.purgelogCoversRow.pinnedBy) = true := by kernel_rfl
theorem k_30 : (Rows.purgelogCoversRow.veiled == (Tryz.f3.params.toList ++ (OpenSpec.ofChange Rows.purgelogCoversSpec).bare.plain.varTypes Tryz.prog ++ Tryz.f3.resultTypes.toList).any (Tryz.prog.veiledRec ·)) = true := by kernel_rfl
theorem k_31 : Rows.purgelogCoversRow.veiledFits Tryz.prog Tryz.f3.params.toList (Tryz.f3.params.toList ++ (OpenSpec.ofChange Rows.purgelogCoversSpec).bare.plain.varTypes Tryz.prog ++ Tryz.f3.resultTypes.toList) = true := by kernel_rfl
theorem closed : joinedFacts Tryz.prog 3 Tryz.f3 (OpenSpec.ofChange Rows.purgelogCoversSpec).bare Rows.purgelogCoversRow = true := Op.andT (Op.andT (Op.andT (Op.andT (Op.andT (Op.andT (Op.andT (Op.andT (Op.andT (Op.andT (Op.andT (Op.andT (Op.andT (Op.andT (Op.andT (Op.andT (Op.andT (Op.andT (Op.andT (Op.andT (Op.andT (Op.andT (Op.andT (Op.andT (Op.andT (Op.andT (Op.andT (Op.andT (Op.andT (Op.andT (Op.andT (k_0) k_1) k_2) k_3) k_4) k_5) k_6) k_7) k_8) k_9) k_10) k_11) k_12) k_13) k_14) k_15) k_16) k_17) k_18) k_19) k_20) k_21) k_22) k_23) k_24) k_25) k_26) k_27) k_28) k_29) k_30) k_31

theorem said : Rows.PurgelogCoversSaid :=
  OpenClaim.holds_of_cond 3 Tryz.f3 rfl rfl rfl rfl rfl rfl rfl ⟨rfl, rfl, rfl, rfl, rfl⟩ rfl rfl rfl rfl rfl (by kernel_rfl) Tryz.func3 closed
    (of_decide_eq_true (by kernel_rfl)) (by unfold Func.isWrapper; first | (rw [if_pos (by decide +kernel)]; kernel_rfl) | (rw [if_neg (by decide +kernel)]; exact ⟨rfl, rfl⟩))
    (fun os started H enc _ F => by rw [OpenClaim.pre_eq_preRow]; exact lifted os started H enc F)

theorem plain (b : Bool) (hb : b = Tryz.pinned.checked.prog.looks []) (f : FuncId) (fn : Func) (hf : Tryz.pinned.checked.prog.funcNamed "quayside/quaysidelaw37.PurgelogCovers" = some f) (hfn : Tryz.pinned.checked.prog.funcs[f]? = some fn) :
    b = Tryz.pinned.checked.prog.looks [] ∧ ∀ (j : Nat) t, fn.params[j]? = some t → Tryz.pinned.checked.prog.wantsStandIn t = false := by
  obtain rfl : f = 3 := Option.some.inj ((show Tryz.prog.funcNamed "quayside/quaysidelaw37.PurgelogCovers" = some 3 by kernel_rfl).symm.trans hf) |>.symm
  obtain rfl : fn = Tryz.f3 := (Option.some.inj (Tryz.func3.symm.trans hfn)).symm
  refine ⟨hb, fun j t ht => ?_⟩
  rw [Tryz.params3] at ht
  have hm : t ∈ [22, 27] := by simpa using Array.mem_of_getElem? ht
  have hall : ([22, 27].all fun u => !Tryz.prog.wantsStandIn u) = true := by kernel_rfl
  exact (show Tryz.prog.wantsStandIn t = false by simpa using List.all_eq_true.1 hall t hm)

theorem proved : Rows.PurgelogCoversCardSaid :=
  Claim7.holds_tied_plain_at .later [] _ _ _ _ said (fun _ h => by cases h) (by kernel_rfl) (fun _ h => by cases h) purgelogCovers_row_tie rfl ⟨rfl, rfl⟩ (by kernel_rfl) rfl (plain _ (by kernel_rfl)) (by kernel_rfl)
#print axioms proved
end Go.Proofs.YtijjggbiljkalaaGreatDoor.lawPurgelogCovers
