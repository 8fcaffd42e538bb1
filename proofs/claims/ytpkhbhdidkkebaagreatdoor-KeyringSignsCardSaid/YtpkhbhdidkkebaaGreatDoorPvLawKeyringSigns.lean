/- PROVED: KeyringSigns returns true for every input and leaves its arguments as they were. No condition beyond the statement's own (the listed variables read as the program's text lays them, which the card ties). -/
import Derived.Deep.RegionHeld3
import Derived.OrdersHeld
import Derived.Deep.LoopGhost
import Derived.Deep.DeepCutAuto
import Derived.Test.YtpkhbhdidkkebaaGreatDoorPvK
import Derived.Test.YtpkhbhdidkkebaaGreatDoorPvR
import Derived.Test.YtpkhbhdidkkebaaGreatDoorPvS
import Derived.Test.YtpkhbhdidkkebaaGreatDoorPvU
import Derived.Test.YtpkhbhdidkkebaaGreatDoorPvV
import Derived.Test.YtpkhbhdidkkebaaGreatDoorPvd
import Derived.Test.YtpkhbhdidkkebaaGreatDoorPvh
import Derived.Test.YtpkhbhdidkkebaaGreatDoorPvk
import Derived.Test.YtpkhbhdidkkebaaGreatDoorPvo
namespace Go.Proofs.YtpkhbhdidkkebaaGreatDoor.lawKeyringSigns
open Go.ChangeShapes Go.WideShapes Go.ChangeAt Go.RowKit Pl Ad
open Go.ChangeMaps (open_string shut_string)
attribute [local go_sem] ba_get ba_append ba_extract_end ba_extract_zero ba_extract conv_one
set_option maxRecDepth 100000
set_option maxHeartbeats 4000000
set_option linter.unusedVariables false
set_option linter.unusedSimpArgs false
open Sg Dg Kr A1
attribute [local go_sem] guard_pa eql_pa A1.conv_bytes
attribute [-go_sem] run_eql_struct run_eqGuard_agg
def kOld : KeyM := ⟨[111, 108, 100], secN 20, 0, 200000, 0⟩
def kOldR : KeyM := ⟨[111, 108, 100], secN 20, 0, 200000, 0⟩
def kMain (f t : Int) : KeyM := ⟨[109, 97, 105, 110], secN 40, f, t, 0⟩
def kMainR (f t : Int) : KeyM := ⟨[109, 97, 105, 110], secN 40, f, t, f⟩
def plA : Adr := ⟨[104], [47, 112], [], false⟩
theorem clipK_in {n : Int} (h0 : 0 ≤ n) (h1 : n ≤ 1099511627776) : clipK n = n := by unfold clipK; omega
theorem add_old : addC 3 [] kOld = 0 := by
 refine addC_ok (by show idOk [111, 108, 100] = true; decide) (rngK_iff.2 ⟨by decide, by decide, by show 16 ≤ (secN 20).length; decide, by show (secN 20).length ≤ 64; decide, by show (0 : Int) = clipK 0; decide, by show (200000 : Int) = clipK 200000; decide⟩) (by show ¬ (200000 : Int) ≤ 0; decide) rfl
theorem add_main {f t : Int} (h0 : 0 ≤ f) (h1 : f < t) (h2 : t ≤ 200000) : addC 3 [kOldR] (kMain f t) = 0 := by
 refine addC_ok (by show idOk [109, 97, 105, 110] = true; decide) (rngK_iff.2 ⟨by decide, by decide, by show 16 ≤ (secN 40).length; decide, by show (secN 40).length ≤ 64; decide, ?_, ?_⟩) (by show ¬ t ≤ f; omega) rfl
 ·exact (clipK_in (n := f) h0 (by omega)).symm
 ·exact (clipK_in (n := t) (by omega) (by omega)).symm
theorem rev_old : revC [newK kOld] [111, 108, 100] = 0 ∧ revL [newK kOld] [111, 108, 100] 0 = [kOldR] := ⟨rfl, rfl⟩
theorem sign_main {f t : Int} (h1 : f < t) (h2 : t ≤ 200000) : signI [kOldR, newK (kMain f t)] f = some 1 := by
 have ha : (newK (kMain f t)).at f = true := by
  show (decide (f ≤ f) && decide (f < t) && decide (f < 1099511627777)) = true
  rw [decide_eq_true (by omega), decide_eq_true h1, decide_eq_true (by omega)]; rfl
 have hb : kOldR.at f = false := by
  show (decide (0 ≤ f) && decide (f < 200000) && decide (f < 0)) = false
  by_cases h : 0 ≤ f
  ·rw [decide_eq_false (show ¬ f < 0 by omega), Bool.and_false]
  ·rw [decide_eq_false h, Bool.false_and, Bool.false_and]
 have s1 : pickI (fun k => k.at f) betterK [kOldR, newK (kMain f t)] 1 = none := (pickI_not (p := fun k => k.at f) (e := kOldR) (k := 0) rfl hb).trans rfl
 exact pickI_first (k := 1) rfl ha s1
theorem rev_main {f t : Int} (h0 : 0 ≤ f) (h1 : f ≤ 200000) : revC [kOldR, newK (kMain f t)] [109, 97, 105, 110] = 0 ∧ revL [kOldR, newK (kMain f t)] [109, 97, 105, 110] f = [kOldR, kMainR f t] := by
 refine ⟨rfl, ?_⟩
 show [kOldR, revK f (newK (kMain f t))] = _
 have : revK f (newK (kMain f t)) = kMainR f t := by
  show (⟨_, _, _, _, min 1099511627777 (clipK f)⟩ : KeyM) = _
  rw [clipK_in h0 (by omega), show min 1099511627777 f = f by omega]
  rfl
 rw [this]
theorem at_main (f t n : Int) (h : n ≤ 200000) : (newK (kMain f t)).at n = (decide (f ≤ n) && decide (n < t)) := by
 show (decide (f ≤ n) && decide (n < t) && decide (n < 1099511627777)) = _
 rw [decide_eq_true (show n < 1099511627777 by omega), Bool.and_true]
theorem dead_main (f t : Int) : (kMainR f t).at f = false := by
 show (decide (f ≤ f) && decide (f < t) && decide (f < f)) = false
 rw [decide_eq_false (show ¬ f < f by omega), Bool.and_false]
theorem keys_step {E E4 : Nat → List Ent} {t : Int} {l k : List KeyM} (h : KStep E E4 t l) (h2 : l = k) : keysOf E4 t = k := by
 have := h t
 rw [if_pos rfl, h2] at this
 exact this
theorem keys_other {E E4 : Nat → List Ent} {t s : Int} {l : List KeyM} (h : KStep E E4 t l) (hs : s ≠ t) : keysOf E4 s = keysOf E s := by
 have := h s
 rw [if_neg hs] at this
 exact this
theorem two_keys {l : List Ent} {k k' : KeyM} (h : l.map Ent.key = [k, k']) : ∃ x y, l = [x, y] ∧ x.key = k ∧ y.key = k' := by
 match l, h with
 | [x, y], h =>
   simp only [List.map_cons, List.map_nil, List.cons.injEq, and_true] at h
   exact ⟨x, y, rfl, h.1, h.2⟩
/-- The key of that name. -/
theorem find_main {l : List Ent} {k k' : KeyM} (h : l.map Ent.key = [k, k']) (h1 : (k.id == [109, 97, 105, 110]) = false) (h2 : (k'.id == [109, 97, 105, 110]) = true) : (findE l [109, 97, 105, 110]).map Ent.key = some k' := by
 obtain ⟨x, y, rfl, hx, hy⟩ := two_keys h
 unfold findE
 rw [List.find?_cons_of_neg (by rw [hx, h1]; decide), List.find?_cons_of_pos (by rw [hy, h2])]
 rw [Option.map_some, hy]
theorem tl_len {E : Nat → List Ent} {t : Int} {l : List KeyM} (h : keysOf E t = l) : (tlK E t).length = l.length := by rw [← h]; unfold keysOf; rw [List.length_map]
theorem sec_len {l : List Ent} {k k' : KeyM} (h : l.map Ent.key = [k, k']) (h1 : k.sec.length ≤ 1000000) (h2 : k'.sec.length ≤ 1000000) : ∀ e ∈ l, e.key.sec.length ≤ 1000000 := by
 obtain ⟨x, y, rfl, hx, hy⟩ := two_keys h
 intro e he
 rcases List.mem_cons.1 he with rfl | he
 ·rw [hx]; exact h1
 ·rw [List.mem_singleton.1 he, hy]; exact h2
theorem len_two {l : List Ent} {k k' : KeyM} (h : l.map Ent.key = [k, k']) : l.length = 2 := by
 obtain ⟨x, y, rfl, _, _⟩ := two_keys h
 rfl
theorem check_pl {c d : Int} (h0 : 0 ≤ c) (h1 : c < d) (h2 : d ≤ 200000) : checkS plA ⟨[109, 97, 105, 110], c, d⟩ = 0 := check_by (by decide +kernel) (by decide +kernel) (by show idOk [109, 97, 105, 110] = true; decide +kernel) h1 h0 (by show d ≤ 1099511627776; omega) (by show plA.text.length + 74 + ([109, 97, 105, 110] : Bs).length ≤ 1024; decide +kernel)
theorem three_new (w : World) (T1 T2 T3 : Nat) (c1 c2 c3 : Array Value) : Below w.heap.size w (((w.alloc (.cells c1 T1)).alloc (.cells c2 T2)).alloc (.cells c3 T3)) ∧ Bx (((w.alloc (.cells c1 T1)).alloc (.cells c2 T2)).alloc (.cells c3 T3)) (w.heap.size + 1) T2 c2 ∧ Bx (((w.alloc (.cells c1 T1)).alloc (.cells c2 T2)).alloc (.cells c3 T3)) (w.heap.size + 1 + 1) T3 c3 := by
 refine ⟨(((Below.refl w.heap.size w).alloc (Nat.le_refl _) _).alloc (by simp) _).alloc (by simp; omega) _, ?_, ?_⟩
 ·have h9 := (Bx.new (w.alloc (.cells c1 T1)) T2 c2).older ((Below.refl _ _).alloc (Nat.le_refl _) (.cells c3 T3))
  rw [show (w.alloc (.cells c1 T1)).heap.size = w.heap.size + 1 by simp] at h9
  exact h9
 ·have h9 := Bx.new ((w.alloc (.cells c1 T1)).alloc (.cells c2 T2)) T3 c3
  rw [show ((w.alloc (.cells c1 T1)).alloc (.cells c2 T2)).heap.size = w.heap.size + 1 + 1 by simp] at h9
  exact h9
theorem ver_no {B : Nat} {sd : Adr} {t now : Int} {V : Nat → Value} {E : Nat → List Ent} {w : World} {r : SigM} (hg : SgnAt w) (hr : RingAt w B B V E) (hl : (tlK E t).length ≤ 1000000) (hs : ∀ e ∈ tlK E t, e.key.sec.length ≤ 1000000)
    (hL : sd.host.length ≤ 1024 ∧ sd.path.length ≤ 1024 ∧ sd.query.length ≤ 1024) (hrd : readS sd = some r) (h : (findE (tlK E t) r.tok.id).map Ent.key = none ∨ ∃ k, (findE (tlK E t) r.tok.id).map Ent.key = some k ∧ k.at now = false) :
    Calls Tryz.prog 17 #[ptrK B, .int .i64 t, adV sd, .int .i64 now] w fun e w' => e = .returned (.tuple #[adV ⟨[], [], [], false⟩, errV 16]) ∧ Below w.heap.size w w' := by
 have h9 := kverify_any B B t sd now V E w hg hr hl hs (by omega) (by omega) (by omega)
 obtain ⟨k1, k2⟩ : ringC (fun id => (findE (tlK E t) id).map Ent.key) sd now = 16 ∧ ringA (fun id => (findE (tlK E t) id).map Ent.key) sd now = ⟨[], [], [], false⟩ := by
  rcases h with h | ⟨k, h, hk⟩
  ·exact ring_nokey hrd h
  ·exact ring_dead hrd h hk
 rw [k2, errC_at k1 (by decide)] at h9
 exact h9
theorem ver_at {B : Nat} {sd : Adr} {t now : Int} {V : Nat → Value} {E : Nat → List Ent} {w : World} {r : SigM} {k : KeyM} (hg : SgnAt w) (hr : RingAt w B B V E) (hl : (tlK E t).length ≤ 1000000) (hs : ∀ e ∈ tlK E t, e.key.sec.length ≤ 1000000)
    (hL : sd.host.length ≤ 1024 ∧ sd.path.length ≤ 1024 ∧ sd.query.length ≤ 1024) (hrd : readS sd = some r) (h : (findE (tlK E t) r.tok.id).map Ent.key = some k) (hk : k.at now = true) {c : Int} {x : Adr} (hc : verC sd k.sec true now = c) (hx : verA sd k.sec true now = x) :
    Calls Tryz.prog 17 #[ptrK B, .int .i64 t, adV sd, .int .i64 now] w fun e w' => e = .returned (.tuple #[adV x, Sg.errC c]) ∧ Below w.heap.size w w' := by
 have h9 := kverify_any B B t sd now V E w hg hr hl hs (by omega) (by omega) (by omega)
 obtain ⟨k1, k2⟩ := ring_yes (f := fun id => (findE (tlK E t) id).map Ent.key) hrd h hk
 rw [k1, k2, hc, hx] at h9
 exact h9
theorem row_at {α : Type} {R : α → List Value} {k : Nat} {w : World} {a : Option Addr} {n c : Nat} {xs : List α} (h : RowsV R k w (.slice a n c) xs) {i : Nat} {x : α} (hx : xs[i]? = some x) :
 ∃ b o, a = some ⟨b, o, none⟩ ∧ xs.length ≤ c ∧ b < w.heap.size ∧ ∀ j u, (R x)[j]? = some u → w.cell? ⟨b, o + i * k + j, none⟩ = some u := by
 rcases h with ⟨rfl, _⟩ | ⟨b, o, c', h1, h2, h3, h4⟩
 ·simp at hx
 ·cases h1
  exact ⟨b, o, rfl, h2, h3, fun j u hu => by rw [Nat.add_assoc]; exact h4 i x hx j u hu⟩
theorem verA_no {a : Adr} {sec : Bs} {k : Bool} {n : Int} (h0 : ¬ verC a sec k n = 0) : verA a sec k n = ⟨[], [], [], false⟩ := by
 unfold verA
 split
 ·rfl
 ·exact if_neg h0
theorem walk (a b c d : Nat) (xs : List Nat) (v : Value) (w : World) (hg : Sg.SgnAt w) (la : a < 65536) (lb : b < 65536) (lc : c < 65536) (ld : d < 65536) (hx : RowsV Sg.shortC 1 w v xs) (hl : xs.length ≤ 9223372036854775807) (hb : ∀ x ∈ xs, x < 65536) :
 Calls Tryz.prog 5 #[.agg #[.int .u16 (a : Int), .int .u16 (b : Int)], .agg #[.int .u16 (c : Int), .int .u16 (d : Int)], v] w fun e w' => e = .returned (.bool true) ∧ Below w.heap.size w w' := by
 obtain ⟨va, vc, rfl, _⟩ := hx.form
 have HG := Lib.hid hg
 have HX := Lib.hid hx
 have HXB := Lib.hid hb
 have HB0 := Lib.hid (((Below.refl w.heap.size w).alloc (Nat.le_refl _) (.cells #[.int .u16 (a : Int), .int .u16 (b : Int)] 86)).alloc (by simp) (.cells #[.int .u16 (c : Int), .int .u16 (d : Int)] 86))
 have HX3 := Lib.hid ((Bx.new w 86 #[.int .u16 (a : Int), .int .u16 (b : Int)]).older ((Below.refl _ _).alloc (Nat.le_refl _) (.cells #[.int .u16 (c : Int), .int .u16 (d : Int)] 86)))
 have HX4 := Lib.hid (show Bx ((w.alloc (.cells #[.int .u16 (a : Int), .int .u16 (b : Int)] 86)).alloc (.cells #[.int .u16 (c : Int), .int .u16 (d : Int)] 86)) (w.heap.size + 1) 86 #[.int .u16 (c : Int), .int .u16 (d : Int)] by have h9 := Bx.new (w.alloc (.cells #[.int .u16 (a : Int), .int .u16 (b : Int)] 86)) 86 #[.int .u16 (c : Int), .int .u16 (d : Int)]; rw [show (w.alloc (.cells #[.int .u16 (a : Int), .int .u16 (b : Int)] 86)).heap.size = w.heap.size + 1 by simp] at h9; exact h9)
 have LA := Lib.hid la
 have LB := Lib.hid lb
 have LC := Lib.hid lc
 have LD := Lib.hid ld
 clear hg hx hb la lb lc ld
 go_enter Tryz.func5, Tryz.ntmps5
 go_wp2_with fail
 refine (awake50_any _).mono ?_
 rintro e w1 ⟨rfl, hb1⟩
 have HB1 := Lib.hid (HB0.out.trans (hb1.mono HB0.out.size))
 have HX31 := Lib.hid (HX3.out.older hb1)
 have HX41 := Lib.hid (HX4.out.older hb1)
 clear hb1 HX3 HX4 HB0
 by_cases hs : xs.length ≤ 20
 ·have hs1i : ¬ (20 : Int) < (xs.length : Int) := by omega
  have f0 := HX31.out.cell (i := 0) rfl
  have f1 := HX31.out.cell (i := 1) rfl
  have hz3 := HX31.out.lt
  have i1 : IntKind.i64.wrap (a : Int) = a := IntWalk.i64_in _ (by have := LA.out; omega)
  have i2 : IntKind.i64.wrap (b : Int) = b := IntWalk.i64_in _ (by have := LB.out; omega)
  have i3 : IntKind.i64.wrap ((a : Int) + b) = a + b := IntWalk.i64_in _ (by have := LA.out; have := LB.out; omega)
  have i4 : IntKind.i64.wrap ((a : Int) + b + 1) = a + b + 1 := IntWalk.i64_in _ (by have := LA.out; have := LB.out; omega)
  go_wp2_with fail
  go_quiet (fail)
  obtain ⟨wA, hw9⟩ : ∃ wz, w1.drewN nq = wz := ⟨_, rfl⟩
  have hbA : Below w1.heap.size w1 wA := by rw [← hw9]; exact below_drewN (Below.refl _ _) _
  rw [hw9]
  have HBA := Lib.hid (HB1.out.trans (hbA.mono HB1.out.size))
  have HX4A := Lib.hid (HX41.out.older hbA)
  clear hw9 hbA f0 f1 hz3 i1 i2 HX31 HX41
  obtain ⟨ti, hti⟩ : ∃ z : Int, (a : Int) + b + 1 = z := ⟨_, rfl⟩
  obtain ⟨fr, hfr⟩ : ∃ z : Int, (a : Int) = z := ⟨_, rfl⟩
  rw [hti, hfr]
  have HFT := Lib.hid (show 0 ≤ fr ∧ fr < ti ∧ ti ≤ 200000 by have := LA.out; have := LB.out; omega)
  clear hti hfr i3 i4 LA LB
  go_wp2_with fail
  refine (keyNew_any _).mono ?_
  rintro e w2 ⟨rfl, rfl⟩
  have HR2 := Lib.hid (ringAt_new wA wA.heap.size (Nat.le_refl _))
  have HW2 := Lib.hid ((Below.refl wA.heap.size wA).alloc (Nat.le_refl _) (.cells ring0 102))
  obtain ⟨w2, hw2⟩ : ∃ z, wA.alloc (.cells ring0 102) = z := ⟨_, rfl⟩
  rw [hw2] at HR2 HW2 ⊢
  clear hw2
  have HS20 : Hid (∀ w, Calls Tryz.prog 26 #[.int .u8 20] w fun e w' => e = .returned (.string ⟨(secN 20).toArray⟩) ∧ Below w.heap.size w w') := Lib.hid (fun w => secret_any 20 w (by decide))
  have HS40 : Hid (∀ w, Calls Tryz.prog 26 #[.int .u8 40] w fun e w' => e = .returned (.string ⟨(secN 40).toArray⟩) ∧ Below w.heap.size w w') := Lib.hid (fun w => secret_any 40 w (by decide))
  go_wp2_with fail
  go_at_call 26
  refine (HS20.out _).mono ?_
  rintro e w3 ⟨rfl, hb3⟩
  have hb4 := hb3.trans ((A1.bworld_below w3 (secN 20)).mono hb3.size)
  have HR4 := Lib.hid (HR2.out.older hb4)
  have HW4 := Lib.hid (HW2.out.trans (hb4.mono HW2.out.size))
  have HS4 := Lib.hid (bytesAt_src (c := A1.bcap w3 (secN 20)) (A1.bytesAt_new w3 (secN 20)))
  have HC4 := Lib.hid (show Kr.errC (addC 3 (keysOf (fun _ => []) 3) ⟨[111, 108, 100], secN 20, 0, 200000, 0⟩) = .nilIface from Kr.errC_ok add_old)
  have HA4 := Lib.hid (show addL 3 (keysOf (fun _ => []) 3) ⟨[111, 108, 100], secN 20, 0, 200000, 0⟩ = [newK kOld] from if_pos add_old)
  clear hb3 hb4
  go_wp2_with (go_at_call 24; refine (add_any wA.heap.size wA.heap.size 3 [111, 108, 100] (secN 20) 0 200000 (some ⟨w3.heap.size, 0, none⟩) (A1.bcap w3 (secN 20)) (fun _ => .slice none 0 0) (fun _ => []) _ HR4.out HW4.out.size (by decide) (by decide) HS4.out).mono ?_; rw [HC4.out]; rintro e w5 ⟨V5, E5, rfl, hd5, hst5, _⟩; have HD5 := Lib.hid hd5; have HK5 := Lib.hid (keys_step hst5 HA4.out); have HO5 := Lib.hid (keys_other (s := 4) hst5 (by decide)); have HW5 := Lib.hid (HW4.out.trans (hd5.goes.below HR4.out HW4.out.size)); clear hd5 hst5)
  go_at_call 10
  have HC6 := Lib.hid (show Kr.errC (revC (keysOf E5 3) [111, 108, 100]) = .nilIface by rw [HK5.out]; exact Kr.errC_ok rev_old.1)
  have HA6 := Lib.hid (show revL (keysOf E5 3) [111, 108, 100] 0 = [kOldR] by rw [HK5.out]; exact rev_old.2)
  refine (revoke_any wA.heap.size wA.heap.size 3 [111, 108, 100] 0 V5 E5 _ HD5.out.ring (by rw [tl_len HK5.out]; decide)).mono ?_
  rw [HC6.out]
  rintro e w6 ⟨E6, rfl, hd6, hst6⟩
  have HD6 := Lib.hid hd6
  have HK6 := Lib.hid (keys_step hst6 HA6.out)
  have HO6 := Lib.hid (keys_other (s := 4) hst6 (by decide))
  have HW6 := Lib.hid (HW5.out.trans (hd6.goes.below HD5.out.ring HW5.out.size))
  clear hd6 hst6 HC4 HA4 HC6 HA6 HS4
  go_wp2_with fail
  go_at_call 26
  refine (HS40.out _).mono ?_
  rintro e w7 ⟨rfl, hb7⟩
  have hb8 := hb7.trans ((A1.bworld_below w7 (secN 40)).mono hb7.size)
  have HR8 := Lib.hid (HD6.out.ring.older hb8)
  have HW8 := Lib.hid (HW6.out.trans (hb8.mono HW6.out.size))
  have HS8 := Lib.hid (bytesAt_src (c := A1.bcap w7 (secN 40)) (A1.bytesAt_new w7 (secN 40)))
  have HC8 := Lib.hid (show Kr.errC (addC 3 (keysOf E6 3) ⟨[109, 97, 105, 110], secN 40, fr, ti, 0⟩) = .nilIface by rw [HK6.out]; exact Kr.errC_ok (add_main HFT.out.1 HFT.out.2.1 HFT.out.2.2))
  have HA8 := Lib.hid (show addL 3 (keysOf E6 3) ⟨[109, 97, 105, 110], secN 40, fr, ti, 0⟩ = [kOldR, newK (kMain fr ti)] by rw [HK6.out]; exact if_pos (add_main HFT.out.1 HFT.out.2.1 HFT.out.2.2))
  clear hb7 hb8
  go_wp2_with (go_at_call 24; refine (add_any wA.heap.size wA.heap.size 3 [109, 97, 105, 110] (secN 40) fr ti (some ⟨w7.heap.size, 0, none⟩) (A1.bcap w7 (secN 40)) V5 E6 _ HR8.out HW8.out.size (by decide) (by rw [tl_len HK6.out]; decide) HS8.out).mono ?_; rw [HC8.out]; rintro e w9 ⟨V9, E9, rfl, hd9, hst9, _⟩; have HD9 := Lib.hid hd9; have HK9 := Lib.hid (keys_step hst9 HA8.out); have HO9 := Lib.hid (keys_other (s := 4) hst9 (by decide)); have HW9 := Lib.hid (HW8.out.trans (hd9.goes.below HR8.out HW8.out.size)); clear hd9 hst9)
  have HL9 := Lib.hid (show (tlK E9 3).length = 2 from tl_len HK9.out)
  have HSGN : Hid (∀ wz, RingAt wz wA.heap.size wA.heap.size V9 E9 → Calls Tryz.prog 33 #[ptrK wA.heap.size, .int .i64 3, .int .i64 fr] wz fun e w2 => ∃ ua uc, e = .returned (.tuple #[keyV [109, 97, 105, 110] (.slice ua 40 uc) fr ti, .nilIface]) ∧ SrcAt w2 (.slice ua 40 uc) 40 (bvals (secN 40)) ∧ Below wz.heap.size wz w2) := Lib.hid (fun wz hr => by
   obtain ⟨x, y, hxy, hx, hy⟩ := two_keys HK9.out
   refine (sign_some wA.heap.size wA.heap.size 3 fr V9 E9 wz hr (by rw [HL9.out]; decide) 1 y (by rw [HK9.out]; exact sign_main HFT.out.2.1 HFT.out.2.2) (by rw [hxy]; rfl) (by rw [hy]; show (secN 40).length ≤ 1000000; decide)).mono ?_
   rintro e w2 ⟨ua, uc, rfl, ho, hb⟩
   rw [hy] at ho ⊢
   exact ⟨ua, uc, rfl, SrcAt.of ho, hb⟩)
  go_at_call 33
  refine (HSGN.out _ HD9.out.ring).mono ?_
  rintro e w9s ⟨ua, uc, rfl, hsr, hbs⟩
  have HW9s := Lib.hid (HW9.out.trans (hbs.mono HW9.out.size))
  have HR9s := Lib.hid (HD9.out.ring.older hbs)
  obtain ⟨hal, hp12, ht13⟩ := three_new w9s 74 27 51 #[.string ⟨#[109, 97, 105, 110]⟩, .slice ua 40 uc, .int .i64 fr, .int .i64 ti] #[.string ⟨#[104]⟩, .string ⟨#[47, 112]⟩, .string ⟨#[]⟩, .bool false] #[.string ⟨#[109, 97, 105, 110]⟩, .int .i64 c, .int .i64 (c + d + 1)]
  have HW10 := Lib.hid (HW9s.out.trans (hal.mono HW9s.out.size))
  have HR10 := Lib.hid (HR9s.out.older hal)
  have HS10 := Lib.hid (hsr.older hal)
  have HP10 := Lib.hid hp12
  have HT10 := Lib.hid ht13
  have HC := Lib.hid (show (0 : Int) ≤ (c : Int) ∧ (c : Int) < (c : Int) + d + 1 ∧ (c : Int) + d + 1 ≤ 200000 by have := LC.out; have := LD.out; omega)
  have hck := check_pl HC.out.1 HC.out.2.1 HC.out.2.2
  obtain ⟨sd, hsd⟩ : ∃ z, signA plA ⟨[109, 97, 105, 110], (c : Int), (c : Int) + d + 1⟩ (secN 40) = z := ⟨_, rfl⟩
  have hsd' : signed plA ⟨[109, 97, 105, 110], (c : Int), (c : Int) + d + 1⟩ (sigM mixM (secN 40) (Ad.begun plA ⟨[109, 97, 105, 110], (c : Int), (c : Int) + d + 1⟩).text) = sd := by rw [← hsd]; exact (if_pos hck).symm
  have HRD : Hid (∃ sg, readS sd = some ⟨plA, ⟨[109, 97, 105, 110], (c : Int), (c : Int) + d + 1⟩, sg⟩) := Lib.hid ⟨_, by rw [← hsd']; exact signed_read hck⟩
  have HVC : Hid (∀ now : Int, verC sd (secN 40) true now = if now < (c : Int) ∨ (c : Int) + d + 1 ≤ now then 15 else 0) := Lib.hid (fun now => by rw [← hsd', signed_ver hck]; rfl)
  have HLN := Lib.hid (show sd.host.length ≤ 1024 ∧ sd.path.length ≤ 1024 ∧ sd.query.length ≤ 1024 from valid_lens (by rw [← hsd']; exact signed_valid hck (sigM_hex _ _ _)))
  have HSG : Hid (∀ wz, SgnAt wz → SrcAt wz (.slice ua 40 uc) 40 (bvals (secN 40)) → Calls Tryz.prog 15 #[adV plA, tkV ⟨[109, 97, 105, 110], (c : Int), (c : Int) + d + 1⟩, .slice ua 40 uc] wz fun e w' => e = .returned (.tuple #[adV sd, .nilIface]) ∧ Below wz.heap.size wz w') := Lib.hid (fun wz hz hs => by
   have h9 := sign_any plA ⟨[109, 97, 105, 110], (c : Int), (c : Int) + d + 1⟩ ua uc (secN 40) wz hz hs (by decide) (by decide) (by decide) (by show ([109, 97, 105, 110] : Bs).length ≤ 33554432; decide) (by decide)
   rw [hsd, show Sg.errC (checkS plA ⟨[109, 97, 105, 110], (c : Int), (c : Int) + d + 1⟩) = .nilIface by rw [hck]; rfl] at h9
   exact h9)
  clear hck hsd hsd' hal hp12 ht13 hsr
  have f0 := (HX4A.out.older HW9s.out).cell (i := 0) rfl
  have f1 := (HX4A.out.older HW9s.out).cell (i := 1) rfl
  have hz4 := (HX4A.out.older HW9s.out).lt
  have hz3 : w.heap.size < w9s.heap.size := by omega
  have i1 : IntKind.i64.wrap (c : Int) = c := IntWalk.i64_in _ (by have := HC.out; omega)
  have i2 : IntKind.i64.wrap (d : Int) = d := IntWalk.i64_in _ (by have := HC.out; omega)
  have i3 : IntKind.i64.wrap ((c : Int) + d) = c + d := IntWalk.i64_in _ (by have := HC.out; omega)
  have i4 : IntKind.i64.wrap ((c : Int) + d + 1) = c + d + 1 := IntWalk.i64_in _ (by have := HC.out; omega)
  obtain ⟨sh, sp, sq, sb⟩ := sd
  go_wp2_with (go_at_call 15; refine (HSG.out _ (HG.out.below (HBA.out.trans (HW10.out.mono HBA.out.size))) HS10.out).mono ?_; rintro e w11 ⟨rfl, hb11⟩; have HW11 := Lib.hid (HW10.out.trans (hb11.mono HW10.out.size)); have HR11 := Lib.hid (HR10.out.older hb11); have HP11 := Lib.hid (HP10.out.older hb11); have HT11 := Lib.hid (HT10.out.older hb11); clear hb11)
  have hal := (Below.refl w11.heap.size w11).alloc (Nat.le_refl _) (.cells #[.string ⟨sh.toArray⟩, .string ⟨sp.toArray⟩, .string ⟨sq.toArray⟩, .bool sb] 27)
  have HW12 := Lib.hid (HW11.out.trans (hal.mono HW11.out.size))
  have HR12 := Lib.hid (HR11.out.older hal)
  have HP12 := Lib.hid (HP11.out.older hal)
  have HT12 := Lib.hid (HT11.out.older hal)
  have HA12 := Lib.hid (Bx.new w11 27 #[.string ⟨sh.toArray⟩, .string ⟨sp.toArray⟩, .string ⟨sq.toArray⟩, .bool sb])
  obtain ⟨wL, hwL⟩ : ∃ z, w11.alloc (.cells #[.string ⟨sh.toArray⟩, .string ⟨sp.toArray⟩, .string ⟨sq.toArray⟩, .bool sb] 27) = z := ⟨_, rfl⟩
  rw [hwL] at HW12 HR12 HP12 HT12 HA12 ⊢
  clear hwL hal f0 f1 hz4 hz3 i1 i2 i3 i4 HW11 HR11 HP11 HT11 HW10 HR10 HS10 HP10 HT10 HS8 HC8 HA8 HS20 HS40 HSGN HSG HR8 HR9s HW8 HW9 HR4 HR2 HW2 HW4 HW5 HW6 HK5 HK6
  obtain ⟨Q2, hQ2⟩ : ∃ z, w9s.heap.size + 1 = z := ⟨_, rfl⟩
  obtain ⟨Q4, hQ4⟩ : ∃ z, w11.heap.size = z := ⟨_, rfl⟩
  rw [hQ4] at HA12 ⊢
  rw [hQ2] at HP12 HT12 ⊢
  clear hQ2 hQ4
  have HF12 := Lib.hid (find_main HK9.out (by decide) rfl)
  have HSE := Lib.hid (sec_len HK9.out (by decide) (by show (secN 40).length ≤ 1000000; decide))
  have hab : adB [104] [47, 112] [] false [104] [47, 112] [] false = true := by decide
  go_loopg [103] xs.length (fun gq iv wr => ∃ k : Nat, iv = .int .i64 k ∧ k ≤ xs.length ∧ Hid (xs.length ≤ gq + k) ∧ Hid (Below wL.heap.size wL wr))
  case atStart => exact ⟨0, rfl, Nat.zero_le _, Lib.hid (by omega), Lib.hid (Below.refl _ _)⟩
  case round =>
   obtain ⟨k, rfl, hk, HQ, HBR⟩ := hrel
   have HRr := Lib.hid (HR12.out.older HBR.out)
   have HAr := Lib.hid (HA12.out.older HBR.out)
   have HGr := Lib.hid (HG.out.below (HBA.out.trans (((HW12.out.trans (HBR.out.mono HW12.out.size))).mono HBA.out.size)))
   by_cases hlt : k < xs.length
   ·obtain ⟨n, hnk⟩ : ∃ n, xs[k]? = some n := ⟨_, List.getElem?_eq_getElem hlt⟩
    have hn := HXB.out n (List.mem_of_getElem? hnk)
    obtain ⟨b1, o1, rfl, _, hbl, hrow⟩ := row_at HX.out hnk
    have d0 := keepC ((HBA.out.trans (((HW12.out.trans (HBR.out.mono HW12.out.size))).mono HBA.out.size))) (hrow 0 _ rfl)
    rw [Nat.add_zero, Nat.mul_one] at d0
    have hbz : b1 < wr.heap.size := World.block_lt_of_cell? wr _ d0
    have g0 := HAr.out.cell (i := 0) rfl
    have g1 := HAr.out.cell (i := 1) rfl
    have g2 := HAr.out.cell (i := 2) rfl
    have g3 := HAr.out.cell (i := 3) rfl
    have p0 := (HP12.out.older HBR.out).cell (i := 0) rfl
    have p1 := (HP12.out.older HBR.out).cell (i := 1) rfl
    have p2 := (HP12.out.older HBR.out).cell (i := 2) rfl
    have p3 := (HP12.out.older HBR.out).cell (i := 3) rfl
    have t1 := (HT12.out.older HBR.out).cell (i := 1) rfl
    have t2 := (HT12.out.older HBR.out).cell (i := 2) rfl
    have hgz := HAr.out.lt
    have hpz := (HP12.out.older HBR.out).lt
    have htz := (HT12.out.older HBR.out).lt
    have i1 : IntKind.i64.wrap (n : Int) = n := IntWalk.i64_in _ (by omega)
    have i2 : IntKind.i64.wrap ((n : Int) * 2) = n * 2 := IntWalk.i64_in _ (by omega)
    have HN := Lib.hid (show (n : Int) * 2 ≤ 200000 by omega)
    obtain ⟨sg, hrd⟩ := HRD.out
    clear hn hnk hrow
    by_cases c1 : (n : Int) * 2 < fr
    ·have HV : Hid (∀ wz, SgnAt wz → RingAt wz wA.heap.size wA.heap.size V9 E9 → Calls Tryz.prog 17 #[ptrK wA.heap.size, .int .i64 3, adV ⟨sh, sp, sq, sb⟩, .int .i64 ((n : Int) * 2)] wz fun e w' => e = .returned (.tuple #[.agg #[.string ⟨#[]⟩, .string ⟨#[]⟩, .string ⟨#[]⟩, .bool false], errV 16]) ∧ Below wz.heap.size wz w') := Lib.hid (fun wz hz hr => ver_no hz hr (by rw [HL9.out]; decide) HSE.out HLN.out hrd (.inr ⟨_, HF12.out, by rw [at_main _ _ _ HN.out, decide_eq_false (by omega), Bool.false_and]⟩))
     clear hrd
     go_wp2_with (first | (go_at_call 17; refine (HV.out _ HGr.out HRr.out).mono ?_; rintro e w5 ⟨rfl, hb5⟩; have HB5 := Lib.hid (HBR.out.trans (hb5.mono HBR.out.size)); have p0' := keepC hb5 p0; have p1' := keepC hb5 p1; have p2' := keepC hb5 p2; have p3' := keepC hb5 p3; have t1' := keepC hb5 t1; have t2' := keepC hb5 t2; have hpz' := Nat.lt_of_lt_of_le hpz hb5.size; have htz' := Nat.lt_of_lt_of_le htz hb5.size; clear hb5) | (go_at_call 11; refine (is_err 16 _ (by decide)).mono ?_; rintro e w' ⟨rfl, rfl⟩))
     go_roundg (gk - 1)
     case rel => exact ⟨k + 1, by go_num, by omega, Lib.hid (by have := HQ.out; omega), Lib.hid (HB5.out.alloc HB5.out.size _)⟩
     case measure => have := HQ.out; omega
    ·by_cases c2 : ti ≤ (n : Int) * 2
     ·have HV : Hid (∀ wz, SgnAt wz → RingAt wz wA.heap.size wA.heap.size V9 E9 → Calls Tryz.prog 17 #[ptrK wA.heap.size, .int .i64 3, adV ⟨sh, sp, sq, sb⟩, .int .i64 ((n : Int) * 2)] wz fun e w' => e = .returned (.tuple #[.agg #[.string ⟨#[]⟩, .string ⟨#[]⟩, .string ⟨#[]⟩, .bool false], errV 16]) ∧ Below wz.heap.size wz w') := Lib.hid (fun wz hz hr => ver_no hz hr (by rw [HL9.out]; decide) HSE.out HLN.out hrd (.inr ⟨_, HF12.out, by rw [at_main _ _ _ HN.out, decide_eq_false (show ¬ (n : Int) * 2 < ti by omega), Bool.and_false]⟩))
      clear hrd
      go_wp2_with (first | (go_at_call 17; refine (HV.out _ HGr.out HRr.out).mono ?_; rintro e w5 ⟨rfl, hb5⟩; have HB5 := Lib.hid (HBR.out.trans (hb5.mono HBR.out.size)); have p0' := keepC hb5 p0; have p1' := keepC hb5 p1; have p2' := keepC hb5 p2; have p3' := keepC hb5 p3; have t1' := keepC hb5 t1; have t2' := keepC hb5 t2; have hpz' := Nat.lt_of_lt_of_le hpz hb5.size; have htz' := Nat.lt_of_lt_of_le htz hb5.size; clear hb5) | (go_at_call 11; refine (is_err 16 _ (by decide)).mono ?_; rintro e w' ⟨rfl, rfl⟩))
      go_roundg (gk - 1)
      case rel => exact ⟨k + 1, by go_num, by omega, Lib.hid (by have := HQ.out; omega), Lib.hid (HB5.out.alloc HB5.out.size _)⟩
      case measure => have := HQ.out; omega
     ·by_cases c3 : (n : Int) * 2 < (c : Int)
      ·have hvc : verC ⟨sh, sp, sq, sb⟩ (secN 40) true ((n : Int) * 2) = 15 := by rw [HVC.out, if_pos (by omega)]
       have hva : verA ⟨sh, sp, sq, sb⟩ (secN 40) true ((n : Int) * 2) = ⟨[], [], [], false⟩ := verA_no (by rw [hvc]; decide)
       have HV : Hid (∀ wz, SgnAt wz → RingAt wz wA.heap.size wA.heap.size V9 E9 → Calls Tryz.prog 17 #[ptrK wA.heap.size, .int .i64 3, adV ⟨sh, sp, sq, sb⟩, .int .i64 ((n : Int) * 2)] wz fun e w' => e = .returned (.tuple #[.agg #[.string ⟨#[]⟩, .string ⟨#[]⟩, .string ⟨#[]⟩, .bool false], errV 15]) ∧ Below wz.heap.size wz w') := Lib.hid (fun wz hz hr => ver_at (c := 15) (x := ⟨[], [], [], false⟩) hz hr (by rw [HL9.out]; decide) HSE.out HLN.out hrd HF12.out (by rw [at_main _ _ _ HN.out, decide_eq_true (by omega), decide_eq_true (by omega)]; rfl) hvc hva)
       clear hrd hvc hva
       go_wp2_with (first | (go_at_call 17; refine (HV.out _ HGr.out HRr.out).mono ?_; rintro e w5 ⟨rfl, hb5⟩; have HB5 := Lib.hid (HBR.out.trans (hb5.mono HBR.out.size)); have p0' := keepC hb5 p0; have p1' := keepC hb5 p1; have p2' := keepC hb5 p2; have p3' := keepC hb5 p3; have t1' := keepC hb5 t1; have t2' := keepC hb5 t2; have hpz' := Nat.lt_of_lt_of_le hpz hb5.size; have htz' := Nat.lt_of_lt_of_le htz hb5.size; clear hb5) | (go_at_call 11; refine (is_err 15 _ (by decide)).mono ?_; rintro e w' ⟨rfl, rfl⟩))
       go_roundg (gk - 1)
       case rel => exact ⟨k + 1, by go_num, by omega, Lib.hid (by have := HQ.out; omega), Lib.hid (HB5.out.alloc HB5.out.size _)⟩
       case measure => have := HQ.out; omega
      ·by_cases c4 : (c : Int) + d + 1 ≤ (n : Int) * 2
       ·have hvc : verC ⟨sh, sp, sq, sb⟩ (secN 40) true ((n : Int) * 2) = 15 := by rw [HVC.out, if_pos (by omega)]
        have hva : verA ⟨sh, sp, sq, sb⟩ (secN 40) true ((n : Int) * 2) = ⟨[], [], [], false⟩ := verA_no (by rw [hvc]; decide)
        have HV : Hid (∀ wz, SgnAt wz → RingAt wz wA.heap.size wA.heap.size V9 E9 → Calls Tryz.prog 17 #[ptrK wA.heap.size, .int .i64 3, adV ⟨sh, sp, sq, sb⟩, .int .i64 ((n : Int) * 2)] wz fun e w' => e = .returned (.tuple #[.agg #[.string ⟨#[]⟩, .string ⟨#[]⟩, .string ⟨#[]⟩, .bool false], errV 15]) ∧ Below wz.heap.size wz w') := Lib.hid (fun wz hz hr => ver_at (c := 15) (x := ⟨[], [], [], false⟩) hz hr (by rw [HL9.out]; decide) HSE.out HLN.out hrd HF12.out (by rw [at_main _ _ _ HN.out, decide_eq_true (by omega), decide_eq_true (by omega)]; rfl) hvc hva)
        clear hrd hvc hva
        go_wp2_with (first | (go_at_call 17; refine (HV.out _ HGr.out HRr.out).mono ?_; rintro e w5 ⟨rfl, hb5⟩; have HB5 := Lib.hid (HBR.out.trans (hb5.mono HBR.out.size)); have p0' := keepC hb5 p0; have p1' := keepC hb5 p1; have p2' := keepC hb5 p2; have p3' := keepC hb5 p3; have t1' := keepC hb5 t1; have t2' := keepC hb5 t2; have hpz' := Nat.lt_of_lt_of_le hpz hb5.size; have htz' := Nat.lt_of_lt_of_le htz hb5.size; clear hb5) | (go_at_call 11; refine (is_err 15 _ (by decide)).mono ?_; rintro e w' ⟨rfl, rfl⟩))
        go_roundg (gk - 1)
        case rel => exact ⟨k + 1, by go_num, by omega, Lib.hid (by have := HQ.out; omega), Lib.hid (HB5.out.alloc HB5.out.size _)⟩
        case measure => have := HQ.out; omega
       ·have hvc : verC ⟨sh, sp, sq, sb⟩ (secN 40) true ((n : Int) * 2) = 0 := by rw [HVC.out, if_neg (by omega)]
        have hva : verA ⟨sh, sp, sq, sb⟩ (secN 40) true ((n : Int) * 2) = plA := verA_yes hrd hvc
        have HV : Hid (∀ wz, SgnAt wz → RingAt wz wA.heap.size wA.heap.size V9 E9 → Calls Tryz.prog 17 #[ptrK wA.heap.size, .int .i64 3, adV ⟨sh, sp, sq, sb⟩, .int .i64 ((n : Int) * 2)] wz fun e w' => e = .returned (.tuple #[.agg #[.string ⟨#[104]⟩, .string ⟨#[47, 112]⟩, .string ⟨#[]⟩, .bool false], .nilIface]) ∧ Below wz.heap.size wz w') := Lib.hid (fun wz hz hr => ver_at (c := 0) (x := plA) hz hr (by rw [HL9.out]; decide) HSE.out HLN.out hrd HF12.out (by rw [at_main _ _ _ HN.out, decide_eq_true (by omega), decide_eq_true (by omega)]; rfl) hvc hva)
        clear hrd hvc hva
        go_wp2_with (first | (go_at_call 17; refine (HV.out _ HGr.out HRr.out).mono ?_; rintro e w5 ⟨rfl, hb5⟩; have HB5 := Lib.hid (HBR.out.trans (hb5.mono HBR.out.size)); have p0' := keepC hb5 p0; have p1' := keepC hb5 p1; have p2' := keepC hb5 p2; have p3' := keepC hb5 p3; have t1' := keepC hb5 t1; have t2' := keepC hb5 t2; have hpz' := Nat.lt_of_lt_of_le hpz hb5.size; have htz' := Nat.lt_of_lt_of_le htz hb5.size; clear hb5))
        go_roundg (gk - 1)
        case rel => exact ⟨k + 1, by go_num, by omega, Lib.hid (by have := HQ.out; omega), Lib.hid (HB5.out.alloc HB5.out.size _)⟩
        case measure => have := HQ.out; omega
   ·obtain rfl : k = xs.length := by omega
    have g0 := HAr.out.cell (i := 0) rfl
    have g1 := HAr.out.cell (i := 1) rfl
    have g2 := HAr.out.cell (i := 2) rfl
    have g3 := HAr.out.cell (i := 3) rfl
    have hgz := HAr.out.lt
    have HC13 := Lib.hid (show Kr.errC (revC (keysOf E9 3) [109, 97, 105, 110]) = .nilIface by rw [HK9.out]; exact Kr.errC_ok (rev_main HFT.out.1 (by have := HFT.out; omega)).1)
    have HA13 := Lib.hid (show revL (keysOf E9 3) [109, 97, 105, 110] fr = [kOldR, kMainR fr ti] by rw [HK9.out]; exact (rev_main HFT.out.1 (by have := HFT.out; omega)).2)
    go_wp2_with fail
    go_at_call 10
    refine (revoke_any wA.heap.size wA.heap.size 3 [109, 97, 105, 110] fr V9 E9 _ HRr.out (by rw [HL9.out]; decide)).mono ?_
    rw [HC13.out]
    rintro e w13 ⟨E13, rfl, hd13, hst13⟩
    have HD13 := Lib.hid hd13
    have HK13 := Lib.hid (keys_step hst13 HA13.out)
    have HO13 := Lib.hid (keys_other (s := 4) hst13 (by decide))
    have HA14 := Lib.hid (hd13.goes.bx HRr.out HAr.out (by decide) (by decide) (by decide))
    have hwt := (HW12.out.trans (HBR.out.mono HW12.out.size)).trans (hd13.goes.below HRr.out (HW12.out.trans (HBR.out.mono HW12.out.size)).size)
    have HB13 := Lib.hid (HBA.out.trans (hwt.mono HBA.out.size))
    have HE4 := Lib.hid (show keysOf E13 4 = [] by rw [HO13.out, HO9.out, HO6.out, HO5.out]; rfl)
    obtain ⟨sg, hrd⟩ := HRD.out
    have HV3 : Hid (∀ wz, SgnAt wz → RingAt wz wA.heap.size wA.heap.size V9 E13 → Calls Tryz.prog 17 #[ptrK wA.heap.size, .int .i64 3, adV ⟨sh, sp, sq, sb⟩, .int .i64 fr] wz fun e w' => e = .returned (.tuple #[.agg #[.string ⟨#[]⟩, .string ⟨#[]⟩, .string ⟨#[]⟩, .bool false], errV 16]) ∧ Below wz.heap.size wz w') := Lib.hid (fun wz hz hr => ver_no hz hr (by rw [tl_len HK13.out]; show 2 ≤ 1000000; decide) (sec_len HK13.out (by decide) (by show (secN 40).length ≤ 1000000; decide)) HLN.out hrd (.inr ⟨_, find_main HK13.out (by decide) rfl, dead_main fr ti⟩))
    have HV4 : Hid (∀ wz, SgnAt wz → RingAt wz wA.heap.size wA.heap.size V9 E13 → Calls Tryz.prog 17 #[ptrK wA.heap.size, .int .i64 4, adV ⟨sh, sp, sq, sb⟩, .int .i64 fr] wz fun e w' => e = .returned (.tuple #[.agg #[.string ⟨#[]⟩, .string ⟨#[]⟩, .string ⟨#[]⟩, .bool false], errV 16]) ∧ Below wz.heap.size wz w') := Lib.hid (fun wz hz hr => by
     have hnil : tlK E13 4 = [] := List.map_eq_nil_iff.1 HE4.out
     refine ver_no hz hr (by rw [hnil]; decide) (by rw [hnil]; intro e he; cases he) HLN.out hrd (.inl ?_)
     rw [hnil]; rfl)
    clear hd13 hst13 hwt hrd g0 g1 g2 g3 hgz
    have g0 := HA14.out.cell (i := 0) rfl
    have g1 := HA14.out.cell (i := 1) rfl
    have g2 := HA14.out.cell (i := 2) rfl
    have g3 := HA14.out.cell (i := 3) rfl
    have hgz := HA14.out.lt
    go_wp2_with fail
    refine (HV3.out _ (HG.out.below HB13.out) HD13.out.ring).mono ?_
    rintro e w14 ⟨rfl, hb14⟩
    have HA15 := Lib.hid (HA14.out.older hb14)
    have HR15 := Lib.hid (HD13.out.ring.older hb14)
    have HB15 := Lib.hid (HB13.out.trans (hb14.mono HB13.out.size))
    clear hb14 g0 g1 g2 g3 hgz
    have g0 := HA15.out.cell (i := 0) rfl
    have g1 := HA15.out.cell (i := 1) rfl
    have g2 := HA15.out.cell (i := 2) rfl
    have g3 := HA15.out.cell (i := 3) rfl
    have hgz := HA15.out.lt
    go_wp2_with fail
    refine (HV4.out _ (HG.out.below HB15.out) HR15.out).mono ?_
    rintro e w15 ⟨rfl, hb15⟩
    have HB16 := Lib.hid (HB15.out.trans (hb15.mono HB15.out.size))
    clear hb15
    go_wp2_with (go_at_call 11; refine (is_err 16 _ (by decide)).mono ?_; rintro e w' ⟨rfl, rfl⟩)
    go_ret
    exact ⟨rfl, HB16.out.alloc HB16.out.size _⟩
 ·have hs1i : (20 : Int) < (xs.length : Int) := by omega
  clear hs
  go_wp2_with fail
  refine (awake50_any _).mono ?_
  rintro e w3 ⟨rfl, hb3⟩
  have HB3 := Lib.hid (HB1.out.trans (hb3.mono HB1.out.size))
  clear hb3
  go_wp2_with fail
  go_ret
  exact ⟨rfl, HB3.out⟩

/-- What the walk gives, for every argument. -/
theorem contract (H : Type) (enc : TypeId × Value → H) (W : World) (base : Nat) (args : Array Value) (ds gs : List (DataW H)) (before : List MemPlace)
    (hval : ∀ (j : Nat) t v, Tryz.f5.params[j]? = some t → args[j]? = some v → Value.okWide Tryz.prog W .any base t v)
    (hW : DataW.Whole enc Tryz.prog Tryz.f5.params.toList Rows.keyringSignsSpec.vars false W args.toList ds gs before) (hsz : (DataW.weightsEach Tryz.prog Tryz.f5.params.toList (ds ++ gs)).all (· ≤ reachBytes) = true) (hr : Sg.SgnAt W) :
    Calls Tryz.prog 5 args W fun e W' => ∃ v, e = .returned v ∧ Rows.keyringSignsSpec.post enc Tryz.prog Tryz.f5 false true false false W args v W' := by
 have hW' := hW
 have hlt := fun p hp => hW.lt p hp
 obtain ⟨p, q, hA0, hV, rfl, hfz, hnd⟩ := hW
 have hA : DataW.TrodAll enc Tryz.prog W 0 (fun _ => true) true Tryz.f5.params.toList args.toList ds p := hA0
 have hA1 := hA
 obtain ⟨rfl, rfl⟩ := trodVars_none hV
 rw [Tryz.params5] at hA hval
 obtain ⟨v0, vs0, d0, ds0, p0, q0, hargs, rfl, rfl, h0, r0⟩ := trodAll_cons hA
 obtain ⟨v1, vs1, d1, ds1, p1, q1, rfl, rfl, rfl, h1, r1⟩ := trodAll_cons r0
 obtain ⟨v2, vs2, d2, ds2, p2, q2, rfl, rfl, rfl, h2, r2⟩ := trodAll_cons r1
 obtain ⟨rfl, rfl, rfl⟩ := trodAll_nil r2
 obtain rfl : args = #[v0, v1, v2] := by cases args; simp_all
 have fin : ∀ W', Below W.heap.size W W' → Rows.keyringSignsSpec.post enc Tryz.prog Tryz.f5 false true false false W #[v0, v1, v2] (.bool true) W' := fun W' hb => by
  simp only [List.append_nil] at hA1 hW' hlt
  exact ⟨_, _, _, [], _, [], hW', trodAll_cons_mk (shut_bool Tryz.underlying4 _) trodAll_mk0, Fr.trodAll_below (by kernel_rfl) _ (by kernel_rfl) hA1 hb hlt, rfl, hb.frame _, fun h => by cases h⟩
 clear hW' hA0 hA1 hlt
 rw [Tryz.params5, List.append_nil] at hsz
 obtain ⟨pa0, pb0, rfl, la0, lb0⟩ := Sg.open_pair_arg (hval 0 86 v0 rfl rfl) h0
 obtain ⟨pa1, pb1, rfl, la1, lb1⟩ := Sg.open_pair_arg (hval 1 86 v1 rfl rfl) h1
 obtain ⟨ua2, ul2, uc2, rfl⟩ := okWide_slice Tryz.underlying87 (hval 2 87 v2 rfl rfl)
 obtain ⟨fu2, hf2⟩ := h2
 obtain ⟨xs2, hx2, hl2, hb2⟩ := Sg.open_shorts hf2
 refine (walk pa0 pb0 pa1 pb1 xs2 (.slice ua2 ul2 uc2) W hr la0 lb0 la1 lb1 hx2 hl2 hb2).mono fun e W' ⟨he, hb⟩ => ?_
 subst he
 exact ⟨_, rfl, fin W' hb⟩

theorem laid_met (os : Os) : laidMet Tryz.prog Rows.keyringSignsRow.laid ((Fr.laidE Rows.keyringSignsRow.laid os).forCall (fun _ _ => 0) ⟨#[], #[.agg #[.int .u16 0, .int .u16 0], .agg #[.int .u16 0, .int .u16 0], .slice none 0 0], []⟩).memory :=
 laidMet_of_run' 8 (by kernel_rfl) (by kernel_rfl)
theorem reads (os : Os) {H : Type} (enc : TypeId × Value → H) : ∃ places, DataW.whole enc Tryz.prog ((Fr.laidE Rows.keyringSignsRow.laid os).forCall (fun _ _ => 0) ⟨#[], #[.agg #[.int .u16 0, .int .u16 0], .agg #[.int .u16 0, .int .u16 0], .slice none 0 0], []⟩).memory Tryz.f5.params.toList Rows.keyringSignsSpec.vars false (#[.agg #[.int .u16 0, .int .u16 0], .agg #[.int .u16 0, .int .u16 0], .slice none 0 0] : Array Value).toList 8 = some ([.agg [.lit (.int .u16 0), .lit (.int .u16 0)], .agg [.lit (.int .u16 0), .lit (.int .u16 0)], .nil], [], places) :=
 ⟨[], by kernel_rfl⟩

theorem lifted (os : Os) (started : os.Started) (H : Type) (enc : TypeId × Value → H) (F : Stop.Interp) :
 ReturnsInHanded {} Tryz.checked os 5 .any ((OpenSpec.ofChange Rows.keyringSignsSpec).preRow enc Tryz.prog Tryz.f5 Rows.keyringSignsRow.domain false Rows.keyringSignsRow.laid) (((OpenSpec.ofChange Rows.keyringSignsSpec).at F).post enc Tryz.prog Tryz.f5 false true false false) := by
 obtain ⟨places, hx⟩ := reads os enc
 refine returnsInHanded_of_row (C := Tryz.checked) (s := OpenSpec.ofChange Rows.keyringSignsSpec) Fr.own started (by kernel_rfl) Tryz.func5
   (witness_row_at (enc := enc) (C := Tryz.checked) false (Fr.laidE Rows.keyringSignsRow.laid os) #[.agg #[.int .u16 0, .int .u16 0], .agg #[.int .u16 0, .int .u16 0], .slice none 0 0] rfl (by kernel_rfl) (by kernel_rfl) (by kernel_rfl)
     (OpenSpec.preRow_of_cond 8 hx (by kernel_rfl) (fun k hk => by cases hk) (by kernel_rfl) (laid_met os))) ?_
 intro W base args ds gs before hval hW _ hcond hsz hlaid hsh _
 exact contract H enc W base args ds gs before hval hW (by have h9 : (DataW.weightsEach Tryz.prog (Tryz.f5.params.toList ++ []) (ds ++ gs)).all (· ≤ reachBytes) = true := hsz; rw [List.append_nil] at h9; exact h9) (Fr.sgn_laid hsh hlaid (by kernel_rfl) (by repeat first | exact List.mem_cons_self .. | apply List.mem_cons_of_mem) (by repeat first | exact List.mem_cons_self .. | apply List.mem_cons_of_mem) (by repeat first | exact List.mem_cons_self .. | apply List.mem_cons_of_mem) (by repeat first | exact List.mem_cons_self .. | apply List.mem_cons_of_mem))

theorem k_0 : Rows.keyringSignsRow.wf (OpenSpec.ofChange (OpenSpec.ofChange Rows.keyringSignsSpec).bare) = true := by kernel_rfl
theorem k_1 : laidOutB Tryz.prog = true := Fr.sf_laidOut
theorem k_2 : mapsRowed Tryz.prog = true := Fr.sf_mapsRowed
theorem k_3 : Tryz.f5.params.all (Tryz.prog.readableRec ·) = true := by kernel_rfl
theorem k_4 : namedTie Tryz.prog Rows.keyringSignsRow.named (OpenSpec.ofChange Rows.keyringSignsSpec).bare.vars = true := by kernel_rfl
theorem k_5 : (Rows.keyringSignsRow.stops == []) = true := by kernel_rfl
theorem k_6 : (Tryz.prog.stops == []) = true := Fr.sf_stops
theorem k_7 : (Rows.keyringSignsRow.knobs == []) = true := by kernel_rfl
theorem k_8 : (Tryz.prog.stopKnobs == []) = true := Fr.sf_stopKnobs
theorem k_9 : (Rows.keyringSignsRow.inPlace == Tryz.prog.inPlace 5) = true := by kernel_rfl
theorem k_10 : (Rows.keyringSignsRow.unfollowed == Tryz.prog.unfollowed 5) = true := by kernel_rfl
theorem k_11 : (Rows.keyringSignsRow.recurses == Tryz.prog.recurses 5) = true := by kernel_rfl
theorem k_12 : (Rows.keyringSignsRow.named == Tryz.prog.varsNamed 5) = true := by kernel_rfl
theorem k_13 : (Rows.keyringSignsRow.maps == (Tryz.f5.params.toList ++ (OpenSpec.ofChange Rows.keyringSignsSpec).bare.plain.varTypes Tryz.prog).any (Tryz.prog.mapsRec ·)) = true := by kernel_rfl
theorem k_14 : (Rows.keyringSignsRow.ifaces == (Tryz.f5.params.toList ++ (OpenSpec.ofChange Rows.keyringSignsSpec).bare.plain.varTypes Tryz.prog).any (Tryz.prog.ifacesRec ·)) = true := by kernel_rfl
theorem k_15 : (Rows.keyringSignsRow.mapsOut == Tryz.prog.mapsAmong Tryz.f5.resultTypes.toList) = true := by kernel_rfl
theorem k_16 : (Rows.keyringSignsRow.loops == (Tryz.f5.params.toList ++ (OpenSpec.ofChange Rows.keyringSignsSpec).bare.plain.varTypes Tryz.prog).any (Tryz.prog.loopsFrom ·)) = true := by kernel_rfl
theorem k_17 : (Rows.keyringSignsRow.wideKeys == (Tryz.f5.params.toList ++ (OpenSpec.ofChange Rows.keyringSignsSpec).bare.plain.varTypes Tryz.prog ++ Tryz.f5.resultTypes.toList).any (Tryz.prog.wideKeysFrom ·)) = true := by kernel_rfl
theorem k_18 : (OpenSpec.ofChange Rows.keyringSignsSpec).bare.vars.all (Tryz.prog.varReadable ·) = true := by kernel_rfl
theorem k_19 : Tryz.f5.resultTypes.all (fun t => Tryz.prog.readableRec t && decide (t < Tryz.prog.types.size)) = true := by kernel_rfl
theorem k_20 : (Rows.keyringSignsRow.ifacesOut == Tryz.f5.resultTypes.toList.any (Tryz.prog.ifacesRec ·)) = true := by kernel_rfl
theorem k_21 : (Rows.keyringSignsRow.loopsOut == Tryz.f5.resultTypes.toList.any (Tryz.prog.loopsFrom ·)) = true := by kernel_rfl
theorem k_22 : (Rows.keyringSignsRow.plainKeys == Tryz.prog.plainKeys) = true := Fr.sf_plainKeys
theorem k_23 : Rows.keyringSignsRow.shortTexts.isNone = true := by kernel_rfl
theorem k_24 : Tryz.prog.stopsHeard = true := Fr.sf_heard
theorem k_25 : Tryz.prog.mayEnter = true := Fr.sf_mayEnter
theorem k_26 : (Rows.keyringSignsRow.lifted == Tryz.prog.liftsFinal) = true := Fr.sf_lifted
theorem k_27 : (Tryz.prog.make == some Rows.keyringSignsRow.make) = true := Fr.sf_make
theorem k_28 : (Rows.keyringSignsRow.kinds == (if Rows.keyringSignsRow.domain.isEmpty then [] else Tryz.f5.params.toList.map fun t => match Tryz.prog.underlying t with | some (.int k) => some k | _ => none)) = true := by kernel_rfl
theorem k_29 : (Rows.keyringSignsRow.pinned == Rows.keyringSignsRow.pinnedBy) = true := by kernel_rfl
theorem k_30 : (Rows.keyringSignsRow.veiled == (Tryz.f5.params.toList ++ (OpenSpec.ofChange Rows.keyringSignsSpec).bare.plain.varTypes Tryz.prog ++ Tryz.f5.resultTypes.toList).any (Tryz.prog.veiledRec ·)) = true := by kernel_rfl
theorem k_31 : Rows.keyringSignsRow.veiledFits Tryz.prog Tryz.f5.params.toList (Tryz.f5.params.toList ++ (OpenSpec.ofChange Rows.keyringSignsSpec).bare.plain.varTypes Tryz.prog ++ Tryz.f5.resultTypes.toList) = true := by kernel_rfl
theorem closed : joinedFacts Tryz.prog 5 Tryz.f5 (OpenSpec.ofChange Rows.keyringSignsSpec).bare Rows.keyringSignsRow = true := Op.andT (Op.andT (Op.andT (Op.andT (Op.andT (Op.andT (Op.andT (Op.andT (Op.andT (Op.andT (Op.andT (Op.andT (Op.andT (Op.andT (Op.andT (Op.andT (Op.andT (Op.andT (Op.andT (Op.andT (Op.andT (Op.andT (Op.andT (Op.andT (Op.andT (Op.andT (Op.andT (Op.andT (Op.andT (Op.andT (Op.andT (k_0) k_1) k_2) k_3) k_4) k_5) k_6) k_7) k_8) k_9) k_10) k_11) k_12) k_13) k_14) k_15) k_16) k_17) k_18) k_19) k_20) k_21) k_22) k_23) k_24) k_25) k_26) k_27) k_28) k_29) k_30) k_31

theorem said : Rows.KeyringSignsSaid :=
 OpenClaim.holds_of_cond 5 Tryz.f5 rfl rfl rfl rfl rfl rfl rfl ⟨rfl, rfl, rfl, rfl, rfl⟩ rfl rfl rfl rfl rfl (by kernel_rfl) Tryz.func5 closed
   (of_decide_eq_true (by kernel_rfl)) (by unfold Func.isWrapper; first | (rw [if_pos (by decide +kernel)]; kernel_rfl) | (rw [if_neg (by decide +kernel)]; exact ⟨rfl, rfl⟩))
   (fun os started H enc _ F => by rw [OpenClaim.pre_eq_preRow]; exact lifted os started H enc F)

theorem plain (b : Bool) (hb : b = Tryz.pinned.checked.prog.looks []) (f : FuncId) (fn : Func) (hf : Tryz.pinned.checked.prog.funcNamed "quayside/quaysidelaw50.KeyringSigns" = some f) (hfn : Tryz.pinned.checked.prog.funcs[f]? = some fn) :
 b = Tryz.pinned.checked.prog.looks [] ∧ ∀ (j : Nat) t, fn.params[j]? = some t → Tryz.pinned.checked.prog.wantsStandIn t = false := by
 obtain rfl : f = 5 := Option.some.inj ((show Tryz.prog.funcNamed "quayside/quaysidelaw50.KeyringSigns" = some 5 by kernel_rfl).symm.trans hf) |>.symm
 obtain rfl : fn = Tryz.f5 := (Option.some.inj (Tryz.func5.symm.trans hfn)).symm
 refine ⟨hb, fun j t ht => ?_⟩
 rw [Tryz.params5] at ht
 have hm : t ∈ [86, 87] := by simpa using Array.mem_of_getElem? ht
 have hall : ([86, 87].all fun u => !Tryz.prog.wantsStandIn u) = true := by kernel_rfl
 exact (show Tryz.prog.wantsStandIn t = false by simpa using List.all_eq_true.1 hall t hm)

theorem proved : Rows.KeyringSignsCardSaid :=
 Claim7.holds_tied_plain_at .later [] _ _ _ _ said (fun _ h => by cases h) (by kernel_rfl) (fun _ h => by cases h) keyringSigns_row_tie rfl ⟨rfl, rfl⟩ (by kernel_rfl) rfl (plain _ (by kernel_rfl)) (by kernel_rfl)
#print axioms proved
end Go.Proofs.YtpkhbhdidkkebaaGreatDoor.lawKeyringSigns
