/- PROVED: KeyringVerifies returns true for every input and leaves its arguments as they were. No condition beyond the statement's own (the listed variables read as the program's text lays them, which the card ties). -/
import Derived.Deep.RegionHeld3
import Derived.OrdersHeld
import Derived.Deep.LoopGhost
import Derived.Deep.DeepCutAuto
import Derived.Test.YtpkhbhdidkkebaaGreatDoorPvK
import Derived.Test.YtpkhbhdidkkebaaGreatDoorPvU
import Derived.Test.YtpkhbhdidkkebaaGreatDoorPvV
import Derived.Test.YtpkhbhdidkkebaaGreatDoorPvd
import Derived.Test.YtpkhbhdidkkebaaGreatDoorPvh
import Derived.Test.YtpkhbhdidkkebaaGreatDoorPvk
import Derived.Test.YtpkhbhdidkkebaaGreatDoorPvm
import Derived.Test.YtpkhbhdidkkebaaGreatDoorPvo
namespace Go.Proofs.YtpkhbhdidkkebaaGreatDoor.lawKeyringVerifies
open Go.ChangeShapes Go.WideShapes Go.ChangeAt Go.RowKit Pl Ad
open Go.ChangeMaps (open_string shut_string)
attribute [local go_sem] ba_get ba_append ba_extract_end ba_extract_zero ba_extract conv_one
set_option maxRecDepth 100000
set_option maxHeartbeats 4000000
set_option linter.unusedVariables false
set_option linter.unusedSimpArgs false
open Sg Dg Kr A1
attribute [local go_sem] guard_pa guard_ra guard_pt eql_ra A1.conv_bytes
attribute [-go_sem] run_eql_struct run_eqGuard_agg
theorem adB_refl (h p q : Bs) (b : Bool) : adB h p q b h p q b = true := by rw [adB_iff]; exact decide_eq_true rfl
/-- A round's state beside the statement's box. -/
structure KwS (w0 wr : World) (B : Nat) (cs : Array Value) (R : Nat) (V : Nat → Value) (E : Nat → List Ent) (v : Value) (ml : KL) : Prop where
 pl : PlS w0 wr R V E v ml
 bx : Bx wr B 66 cs
theorem KwS.older {w0 wr w' : World} {B : Nat} {cs : Array Value} {R : Nat} {V : Nat → Value} {E : Nat → List Ent} {v : Value} {ml : KL} (h : KwS w0 wr B cs R V E v ml) (hb : Below wr.heap.size wr w') : KwS w0 w' B cs R V E v ml := ⟨h.pl.older hb, h.bx.older hb⟩
/-- A world above another. -/
structure BelS (u w : World) : Prop where
 bel : Below u.heap.size u w
theorem BelS.older {u w w' : World} (h : BelS u w) (hb : Below w.heap.size w w') : BelS u w' := ⟨h.bel.trans (hb.mono h.bel.size)⟩
theorem BelS.set4 {u w : World} (h : BelS u w) {Q : Nat} (hQ : u.heap.size ≤ Q) (u0 u1 u2 u3 : Value) : BelS u ((((w.setCell ⟨Q, 0, none⟩ u0).setCell ⟨Q, 1, none⟩ u1).setCell ⟨Q, 2, none⟩ u2).setCell ⟨Q, 3, none⟩ u3) := ⟨Box.set h.bel hQ _ _ _ _⟩
theorem walk (h p q : Bs) (b : Bool) (tn : Nat) (id : Bs) (frm til : Int) (sn : Nat) (now : Int) (acts : List KAct) (u : Value) (w : World) (hg : Sg.SgnAt w) (z0 : h.length ≤ 140737488351232) (z1 : p.length ≤ 140737488351232) (z2 : q.length ≤ 140737488351232) (z3 : id.length ≤ 140737488351232) (ha : RowsV actK 8 w u acts) (hl : acts.length ≤ 9223372036854775807) (hok : ∀ a ∈ acts, a.ok) (htn : tn < 256) (hsn : sn < 256) :
 Calls Tryz.prog 4 #[.agg #[u, .string ⟨h.toArray⟩, .string ⟨p.toArray⟩, .string ⟨q.toArray⟩, .bool b, .int .u8 (tn : Int), .string ⟨id.toArray⟩, .int .i64 frm, .int .i64 til, .int .u8 (sn : Int), .int .i64 now]] w fun e w' => e = .returned (.bool true) ∧ Below w.heap.size w w' := by
 obtain ⟨va, vc, rfl, _⟩ := ha.form
 have HG := Lib.hid hg
 have HA := Lib.hid ha
 have HOK := Lib.hid hok
 have HB0 := Lib.hid ((Below.refl w.heap.size w).alloc (Nat.le_refl _) (.cells #[.slice va acts.length vc, .string ⟨h.toArray⟩, .string ⟨p.toArray⟩, .string ⟨q.toArray⟩, .bool b, .int .u8 (tn : Int), .string ⟨id.toArray⟩, .int .i64 frm, .int .i64 til, .int .u8 (sn : Int), .int .i64 now] 66))
 have HX0 := Lib.hid (Bx.new w 66 #[.slice va acts.length vc, .string ⟨h.toArray⟩, .string ⟨p.toArray⟩, .string ⟨q.toArray⟩, .bool b, .int .u8 (tn : Int), .string ⟨id.toArray⟩, .int .i64 frm, .int .i64 til, .int .u8 (sn : Int), .int .i64 now])
 clear hg ha hok
 go_enter Tryz.func4, Tryz.ntmps4
 go_wp2_with fail
 refine (awake50_any _).mono ?_
 rintro e w1 ⟨rfl, hb1⟩
 have HB1 := Lib.hid (HB0.out.trans (hb1.mono HB0.out.size))
 have HX1 := Lib.hid (HX0.out.older hb1)
 clear hb1
 have j0 := HX1.out.cell (i := 0) rfl; have j1 := HX1.out.cell (i := 1) rfl; have j2 := HX1.out.cell (i := 2) rfl; have j3 := HX1.out.cell (i := 3) rfl; have j4 := HX1.out.cell (i := 4) rfl; have j5 := HX1.out.cell (i := 5) rfl; have j6 := HX1.out.cell (i := 6) rfl; have j7 := HX1.out.cell (i := 7) rfl; have j8 := HX1.out.cell (i := 8) rfl; have j9 := HX1.out.cell (i := 9) rfl; have j10 := HX1.out.cell (i := 10) rfl; have hjz := HX1.out.lt
 by_cases hs : acts.length ≤ 20 ∧ h.length + p.length + q.length ≤ 2000
 ·obtain ⟨hs1, hs2⟩ := hs
  have hs1i : ¬ (20 : Int) < (acts.length : Int) := by omega
  have hs2i : ¬ (2000 : Int) < (h.length : Int) + (p.length : Int) + (q.length : Int) := by omega
  go_wp2_with fail
  refine (keyNew_any _).mono ?_
  rintro e w2 ⟨rfl, rfl⟩
  have HK2 := Lib.hid (show KwS w1 (w1.alloc (.cells ring0 102)) w.heap.size #[.slice va acts.length vc, .string ⟨h.toArray⟩, .string ⟨p.toArray⟩, .string ⟨q.toArray⟩, .bool b, .int .u8 (tn : Int), .string ⟨id.toArray⟩, .int .i64 frm, .int .i64 til, .int .u8 (sn : Int), .int .i64 now] w1.heap.size (fun _ => .slice none 0 0) (fun _ => []) (.slice none 0 0) [] from
    ⟨⟨(Below.refl _ _).alloc (Nat.le_refl _) _, ringAt_new w1 w1.heap.size (Nat.le_refl _), OwnWin.nil _ _ _ _, fun t => by unfold keysOf tlK; split <;> rfl, fun e he => by cases he⟩, HX1.out.older ((Below.refl _ _).alloc (Nat.le_refl _) _)⟩)
  obtain ⟨w2, hw2⟩ : ∃ z, w1.alloc (.cells ring0 102) = z := ⟨_, rfl⟩
  rw [hw2] at HK2 ⊢
  clear hw2 j0 j1 j2 j3 j4 j5 j6 j7 j8 j9 j10 hjz
  have hj0 := HK2.out.bx.cell (i := 0) rfl
  have hjz2 := HK2.out.bx.lt
  go_wp2_with fail
  obtain ⟨R, hR⟩ : ∃ z, w1.heap.size = z := ⟨_, rfl⟩
  rw [hR] at HK2 ⊢
  clear hj0 hjz2
  go_loopg [45, 4, 6] acts.length (fun gq iv s4 s6 wr => ∃ (k : Nat) (ml : KL) (V : Nat → Value) (E : Nat → List Ent) (la : Option Addr) (lc : Nat), iv = .int .i64 k ∧ k ≤ acts.length ∧ Hid (acts.length ≤ gq + k) ∧ s4 = .slice la ml.length lc ∧ ml.length ≤ k ∧ KwS w1 wr w.heap.size #[.slice va acts.length vc, .string ⟨h.toArray⟩, .string ⟨p.toArray⟩, .string ⟨q.toArray⟩, .bool b, .int .u8 (tn : Int), .string ⟨id.toArray⟩, .int .i64 frm, .int .i64 til, .int .u8 (sn : Int), .int .i64 now] R V E (.slice la ml.length lc) ml)
  case atStart => exact ⟨0, [], _, _, none, 0, rfl, Nat.zero_le _, Lib.hid (by omega), rfl, Nat.le_refl _, HK2.out⟩
  case round =>
   obtain ⟨k, ml, V, E, la, lc, rfl, hk, HQ, rfl, hml, hp⟩ := hrel
   have HK := Lib.hid hp
   clear hp
   by_cases hlt : k < acts.length
   ·obtain ⟨a, hak⟩ : ∃ a, acts[k]? = some a := ⟨_, List.getElem?_eq_getElem hlt⟩
    have haok := HOK.out a (List.mem_of_getElem? hak)
    obtain ⟨b1, o1, rfl, _, hbl, hrow⟩ := A1.RowsV.rowAt HA.out hak
    obtain ⟨kd, an, s, aid, x, y, z, at_⟩ := a
    obtain ⟨hkd, han, hsn1⟩ := haok
    simp only at hkd han hsn1
    have HBW := Lib.hid (HB1.out.trans (HK.out.pl.bel.mono HB1.out.size))
    have d0 := keepC HBW.out (hrow 0 _ rfl)
    have d1 := keepC HBW.out (hrow 1 _ rfl)
    have d2 := keepC HBW.out (hrow 2 _ rfl)
    have d3 := keepC HBW.out (hrow 3 _ rfl)
    have d4 := keepC HBW.out (hrow 4 _ rfl)
    have d5 := keepC HBW.out (hrow 5 _ rfl)
    have d6 := keepC HBW.out (hrow 6 _ rfl)
    have d7 := keepC HBW.out (hrow 7 _ rfl)
    rw [Nat.add_zero] at d0
    have hb6 := (Below.refl wr.heap.size wr).alloc (Nat.le_refl _) (.cells #[.int .u8 (kd : Int), .int .u8 (an : Int), .int .u8 (s : Int), .string ⟨aid.toArray⟩, .int .i64 x, .int .i64 y, .int .i64 z, .int .i64 at_] 69)
    have HK6 := Lib.hid (HK.out.older hb6)
    have HX6 := Lib.hid (Bx.new wr 69 #[.int .u8 (kd : Int), .int .u8 (an : Int), .int .u8 (s : Int), .string ⟨aid.toArray⟩, .int .i64 x, .int .i64 y, .int .i64 z, .int .i64 at_])
    have HB6 := Lib.hid (HBW.out.alloc HBW.out.size (.cells #[.int .u8 (kd : Int), .int .u8 (an : Int), .int .u8 (s : Int), .string ⟨aid.toArray⟩, .int .i64 x, .int .i64 y, .int .i64 z, .int .i64 at_] 69))
    have hpl := pls_len HK.out.pl (tenB an)
    clear hak hrow hb6
    by_cases hid : aid.length ≤ 100
    ·have hid' : ¬ 100 < (aid.length : Int) := by omega
     go_upto_region 10 with fail
     obtain ⟨w6, hw6⟩ : ∃ w6, wr.alloc (.cells #[.int .u8 (kd : Int), .int .u8 (an : Int), .int .u8 (s : Int), .string ⟨aid.toArray⟩, .int .i64 x, .int .i64 y, .int .i64 z, .int .i64 at_] 69) = w6 := ⟨_, rfl⟩
     rw [hw6] at HK6 HX6 HB6 ⊢
     clear hw6
     obtain ⟨qa, hqa⟩ : ∃ qa, wr.heap.size = qa := ⟨_, rfl⟩
     rw [hqa] at HX6 ⊢
     clear hqa d0 d1 d2 d3 d4 d5 d6 d7
     obtain ⟨c0, c1, c2, c3, c4, c5, c6, c7⟩ := actB HX6.out
     have hqz := HX6.out.lt
     refine wp_region_held_drew (S := fun w' => w'.cell? ⟨qa, 0, none⟩ = some (.int .u8 (kd : Int)) ∧ w'.cell? ⟨qa, 1, none⟩ = some (.int .u8 (an : Int)) ∧ w'.cell? ⟨qa, 2, none⟩ = some (.int .u8 (s : Int)) ∧ w'.cell? ⟨qa, 3, none⟩ = some (.string ⟨aid.toArray⟩) ∧ w'.cell? ⟨qa, 4, none⟩ = some (.int .i64 x) ∧ w'.cell? ⟨qa, 5, none⟩ = some (.int .i64 y) ∧ w'.cell? ⟨qa, 6, none⟩ = some (.int .i64 z) ∧ w'.cell? ⟨qa, 7, none⟩ = some (.int .i64 at_)) (by kernel_rfl) (by exact ⟨c0, c1, c2, c3, c4, c5, c6, c7⟩) (fun hHeld => ?_)
     refine Hd.tk 0 ?_
     try simp only [Act.put, List.setIfInBounds_toArray, List.set_cons_zero, List.set_cons_succ]
     refine Hd.tk 1 ?_
     try simp only [Act.put, List.setIfInBounds_toArray, List.set_cons_zero, List.set_cons_succ]
     refine Hd.tk 3 ?_
     try simp only [Act.put, List.setIfInBounds_toArray, List.set_cons_zero, List.set_cons_succ]
     refine Hd.tk 4 ?_
     try simp only [Act.put, List.setIfInBounds_toArray, List.set_cons_zero, List.set_cons_succ]
     refine Hd.tk 5 ?_
     try simp only [Act.put, List.setIfInBounds_toArray, List.set_cons_zero, List.set_cons_succ]
     refine Hd.tk 6 ?_
     try simp only [Act.put, List.setIfInBounds_toArray, List.set_cons_zero, List.set_cons_succ]
     refine Hd.tk 9 ?_
     try simp only [Act.put, List.setIfInBounds_toArray, List.set_cons_zero, List.set_cons_succ]
     refine Hd.tk 10 ?_
     try simp only [Act.put, List.setIfInBounds_toArray, List.set_cons_zero, List.set_cons_succ]
     refine Hd.tk 11 ?_
     try simp only [Act.put, List.setIfInBounds_toArray, List.set_cons_zero, List.set_cons_succ]
     refine Hd.tk 12 ?_
     try simp only [Act.put, List.setIfInBounds_toArray, List.set_cons_zero, List.set_cons_succ]
     refine wpAnyH_ready (rs := [2]) (by kernel_rfl) (by simp) (AllReadyH.cons (by simp only [List.getElem?_toArray, List.getElem?_cons_succ, List.getElem?_cons_zero]; rfl) (fun K hK => ?_) AllReadyH.nil)
     go_simp
     go_at_call 25; refine (tenant_any kd an s aid x y z at_ _ han).mono ?_; rintro e wT ⟨rfl, hbT⟩; have hbwT : Below w6.heap.size w6 wT := ((Below.refl w6.heap.size w6).drew).trans hbT; clear c0 c1 c2 c3 c4 c5 c6 c7; obtain ⟨c0, c1, c2, c3, c4, c5, c6, c7⟩ := actB (HX6.out.older hbwT)
     go_wp2_with fail
     refine hK.out _ _ (by exact ⟨c0, c1, c2, c3, c4, c5, c6, c7⟩) (fun hHe2 => ?_)
     clear hK K
     try simp only [Act.put, List.setIfInBounds_toArray, List.set_cons_zero, List.set_cons_succ]
     refine wpAnyH_ready (rs := [7]) (by kernel_rfl) (by simp) (AllReadyH.cons (by simp only [List.getElem?_toArray, List.getElem?_cons_succ, List.getElem?_cons_zero]; rfl) (fun K hK => ?_) AllReadyH.nil)
     go_simp
     go_at_call 26; refine (secret_any s _ hsn1).mono ?_; rintro e wS ⟨rfl, hbS⟩; have hbwS : Below w6.heap.size w6 wS := hbwT.trans (hbS.mono hbwT.size); clear c0 c1 c2 c3 c4 c5 c6 c7; obtain ⟨c0, c1, c2, c3, c4, c5, c6, c7⟩ := actB (HX6.out.older hbwS)
     go_wp2_with fail
     refine hK.out _ _ (by exact ⟨c0, c1, c2, c3, c4, c5, c6, c7⟩) (fun hHe3 => ?_)
     clear hK K
     try simp only [Act.put, List.setIfInBounds_toArray, List.set_cons_zero, List.set_cons_succ]
     refine wpAnyH_ready (rs := [8]) (by kernel_rfl) (by simp) (AllReadyH.cons (by simp only [List.getElem?_toArray, List.getElem?_cons_succ, List.getElem?_cons_zero]; rfl) (fun K hK => ?_) AllReadyH.nil)
     go_simp
     refine hK.out _ _ (by exact ⟨keepC (A1.bworld_below _ _) c0, keepC (A1.bworld_below _ _) c1, keepC (A1.bworld_below _ _) c2, keepC (A1.bworld_below _ _) c3, keepC (A1.bworld_below _ _) c4, keepC (A1.bworld_below _ _) c5, keepC (A1.bworld_below _ _) c6, keepC (A1.bworld_below _ _) c7⟩) (fun hHe4 => ?_)
     clear hK K
     try simp only [Act.put, List.setIfInBounds_toArray, List.set_cons_zero, List.set_cons_succ]
     refine Hd.tk 13 ?_
     try simp only [Act.put, List.setIfInBounds_toArray, List.set_cons_zero, List.set_cons_succ]
     refine wpAnyH_ready (rs := [14]) (by kernel_rfl) (by simp) (AllReadyH.cons (by simp only [List.getElem?_toArray, List.getElem?_cons_succ, List.getElem?_cons_zero]; rfl) (fun K hK => ?_) AllReadyH.nil)
     go_simp
     have hbwB : Below w6.heap.size w6 (A1.bworld wS (secN s)) := hbwS.trans ((A1.bworld_below wS (secN s)).mono hbwS.size); have HKS := Lib.hid (HK6.out.older hbwB); have HXS := Lib.hid (HX6.out.older hbwB); go_at_call 24; refine (add_any w1.heap.size R (tenB an) aid (secN s) x y (some ⟨wS.heap.size, 0, none⟩) (A1.bcap wS (secN s)) V E _ HKS.out.pl.ring HKS.out.pl.bel.size (by omega) (by omega) (bytesAt_src (A1.bytesAt_new wS (secN s)))).mono ?_; rintro e w8 ⟨V8, E8, rfl, hd8, hst8, _⟩; have HD8 := Lib.hid hd8; have HST8 := Lib.hid hst8; have HX8 := Lib.hid (hd8.goes.bx HKS.out.pl.ring HXS.out (by decide) (by decide) (by decide)); have HA8 := Lib.hid (hd8.goes.bx HKS.out.pl.ring HKS.out.bx (by decide) (by decide) (by decide)); have HP8R := Lib.hid (hd8.goes.own HKS.out.pl.ring HKS.out.pl.ref (by decide) (by decide) (by decide)); have HB8 := Lib.hid (HKS.out.pl.bel.trans (hd8.goes.below HKS.out.pl.ring HKS.out.pl.bel.size)); clear hd8 hst8; clear c0 c1 c2 c3 c4 c5 c6 c7; obtain ⟨c0, c1, c2, c3, c4, c5, c6, c7⟩ := actB (HX8.out)
     go_wp2_with fail
     refine hK.out _ _ (by exact ⟨c0, c1, c2, c3, c4, c5, c6, c7⟩) (fun hHe5 => ?_)
     clear hK K
     try simp only [Act.put, List.setIfInBounds_toArray, List.set_cons_zero, List.set_cons_succ]
     refine wpAnyH_done (by kernel_rfl) ?_ _
     clear hqz
     have hqz := HX8.out.lt
     go_wp2_with fail
     refine wp_region_held_drew (S := fun w' => w'.cell? ⟨qa, 0, none⟩ = some (.int .u8 (kd : Int)) ∧ w'.cell? ⟨qa, 1, none⟩ = some (.int .u8 (an : Int)) ∧ w'.cell? ⟨qa, 2, none⟩ = some (.int .u8 (s : Int)) ∧ w'.cell? ⟨qa, 3, none⟩ = some (.string ⟨aid.toArray⟩) ∧ w'.cell? ⟨qa, 4, none⟩ = some (.int .i64 x) ∧ w'.cell? ⟨qa, 5, none⟩ = some (.int .i64 y) ∧ w'.cell? ⟨qa, 6, none⟩ = some (.int .i64 z) ∧ w'.cell? ⟨qa, 7, none⟩ = some (.int .i64 at_)) (by kernel_rfl) (by exact ⟨c0, c1, c2, c3, c4, c5, c6, c7⟩) (fun hHeld => ?_)
     refine Hd.tk 0 ?_
     try simp only [Act.put, List.setIfInBounds_toArray, List.set_cons_zero, List.set_cons_succ]
     refine Hd.tk 1 ?_
     try simp only [Act.put, List.setIfInBounds_toArray, List.set_cons_zero, List.set_cons_succ]
     refine Hd.tk 3 ?_
     try simp only [Act.put, List.setIfInBounds_toArray, List.set_cons_zero, List.set_cons_succ]
     refine Hd.tk 4 ?_
     try simp only [Act.put, List.setIfInBounds_toArray, List.set_cons_zero, List.set_cons_succ]
     refine Hd.tk 5 ?_
     try simp only [Act.put, List.setIfInBounds_toArray, List.set_cons_zero, List.set_cons_succ]
     refine Hd.tk 6 ?_
     try simp only [Act.put, List.setIfInBounds_toArray, List.set_cons_zero, List.set_cons_succ]
     refine Hd.tk 8 ?_
     try simp only [Act.put, List.setIfInBounds_toArray, List.set_cons_zero, List.set_cons_succ]
     refine Hd.tk 9 ?_
     try simp only [Act.put, List.setIfInBounds_toArray, List.set_cons_zero, List.set_cons_succ]
     refine Hd.tk 10 ?_
     try simp only [Act.put, List.setIfInBounds_toArray, List.set_cons_zero, List.set_cons_succ]
     refine Hd.tk 11 ?_
     try simp only [Act.put, List.setIfInBounds_toArray, List.set_cons_zero, List.set_cons_succ]
     refine wpAnyH_ready (rs := [2]) (by kernel_rfl) (by simp) (AllReadyH.cons (by simp only [List.getElem?_toArray, List.getElem?_cons_succ, List.getElem?_cons_zero]; rfl) (fun K hK => ?_) AllReadyH.nil)
     go_simp
     go_at_call 25; refine (tenant_any kd an s aid x y z at_ _ han).mono ?_; rintro e wU ⟨rfl, hbU⟩; have hbwU : Below w8.heap.size w8 wU := ((Below.refl w8.heap.size w8).drew).trans hbU; clear c0 c1 c2 c3 c4 c5 c6 c7; obtain ⟨c0, c1, c2, c3, c4, c5, c6, c7⟩ := actB (HX8.out.older hbwU)
     go_wp2_with fail
     refine hK.out _ _ (by exact ⟨c0, c1, c2, c3, c4, c5, c6, c7⟩) (fun hHf2 => ?_)
     clear hK K
     try simp only [Act.put, List.setIfInBounds_toArray, List.set_cons_zero, List.set_cons_succ]
     refine wpAnyH_ready (rs := [7]) (by kernel_rfl) (by simp) (AllReadyH.cons (by simp only [List.getElem?_toArray, List.getElem?_cons_succ, List.getElem?_cons_zero]; rfl) (fun K hK => ?_) AllReadyH.nil)
     go_simp
     go_at_call 26; refine (secret_any s _ hsn1).mono ?_; rintro e wV ⟨rfl, hbV⟩; have hbwV : Below w8.heap.size w8 wV := hbwU.trans (hbV.mono hbwU.size); clear c0 c1 c2 c3 c4 c5 c6 c7; obtain ⟨c0, c1, c2, c3, c4, c5, c6, c7⟩ := actB (HX8.out.older hbwV)
     go_wp2_with fail
     refine hK.out _ _ (by exact ⟨c0, c1, c2, c3, c4, c5, c6, c7⟩) (fun hHf3 => ?_)
     clear hK K
     try simp only [Act.put, List.setIfInBounds_toArray, List.set_cons_zero, List.set_cons_succ]
     refine Hd.tk 12 ?_
     try simp only [Act.put, List.setIfInBounds_toArray, List.set_cons_zero, List.set_cons_succ]
     refine wpAnyH_ready (rs := [13]) (by kernel_rfl) (by simp) (AllReadyH.cons (by simp only [List.getElem?_toArray, List.getElem?_cons_succ, List.getElem?_cons_zero]; rfl) (fun K hK => ?_) AllReadyH.nil)
     go_simp
     go_at_call 27; refine (refAdd_any w1.heap.size (.slice la ml.length lc) ml (tenB an) aid (secN s) x y _ (RefAt.older HP8R.out hbwV) (Nat.le_trans HB8.out.size hbwV.size) (by omega) (by omega)).mono ?_; rintro e wA ⟨vA, rfl, hdA, _⟩; have hbwA : Below w8.heap.size w8 wA := hbwV.trans (hdA.bel.mono hbwV.size); clear c0 c1 c2 c3 c4 c5 c6 c7; obtain ⟨c0, c1, c2, c3, c4, c5, c6, c7⟩ := actB (HX8.out.older hbwA)
     go_wp2_with fail
     refine hK.out _ _ (by exact ⟨c0, c1, c2, c3, c4, c5, c6, c7⟩) (fun hHf4 => ?_)
     clear hK K
     try simp only [Act.put, List.setIfInBounds_toArray, List.set_cons_zero, List.set_cons_succ]
     refine Hd.tk 14 ?_
     try simp only [Act.put, List.setIfInBounds_toArray, List.set_cons_zero, List.set_cons_succ]
     refine Hd.tk 15 ?_
     try simp only [Act.put, List.setIfInBounds_toArray, List.set_cons_zero, List.set_cons_succ]
     refine Hd.tk 16 ?_
     try simp only [Act.put, List.setIfInBounds_toArray, List.set_cons_zero, List.set_cons_succ]
     refine Hd.tk 17 ?_
     try simp only [Act.put, List.setIfInBounds_toArray, List.set_cons_zero, List.set_cons_succ]
     refine wpAnyH_done (by kernel_rfl) ?_ _
     have HPA0 := Lib.hid (show PlS w1 wA R V8 E8 vA (addR ml (tenB an) ⟨aid, secN s, x, y, 0⟩) from pls_add HKS.out.pl HB8.out HD8.out.ring HST8.out hbwA hdA.ref (by rw [secN_len]; omega))
     have HAA := Lib.hid (HA8.out.older hbwA)
     have hmlA := addR_len ml (tenB an) ⟨aid, secN s, x, y, 0⟩
     generalize addR ml (tenB an) ⟨aid, secN s, x, y, 0⟩ = ml8 at HPA0 hmlA hdA
     obtain ⟨la8, lc8, hv8, _⟩ := HPA0.out.ref.slot
     subst hv8
     go_wp2_with fail
     go_roundg (gk - 1)
     case rel => exact ⟨k + 1, ml8, V8, E8, la8, lc8, by go_num, by omega, Lib.hid (by have := HQ.out; omega), rfl, by omega, ⟨HPA0.out, HAA.out⟩⟩
     case measure => have := HQ.out; omega
    ·have hid' : 100 < (aid.length : Int) := by omega
     go_wp2_with fail
     go_ret
     exact ⟨rfl, HB6.out⟩
   ·obtain rfl : k = acts.length := by omega
    have HBR := Lib.hid (HB1.out.trans (HK.out.pl.bel.mono HB1.out.size))
    have HGR := Lib.hid (HG.out.below HBR.out)
    have HRSG0 := fun sa sc wz hv => rsign_wide ⟨h, p, q, b⟩ ⟨id, frm, til⟩ sa sc (secN sn) wz hv (by simp only; omega) (by simp only; omega) (by simp only; omega) (by simp only; omega) (by rw [secN_len]; omega)
    have hsl0 : checkS ⟨h, p, q, b⟩ ⟨id, frm, til⟩ = 0 → (signA ⟨h, p, q, b⟩ ⟨id, frm, til⟩ (secN sn)).host.length ≤ 1024 ∧ (signA ⟨h, p, q, b⟩ ⟨id, frm, til⟩ (secN sn)).path.length ≤ 1024 ∧ (signA ⟨h, p, q, b⟩ ⟨id, frm, til⟩ (secN sn)).query.length ≤ 1024 := fun hc => by
     unfold signA
     rw [if_pos hc]
     exact valid_lens (signed_valid hc (sigM_hex _ _ _))
    obtain ⟨cn, hcn⟩ : ∃ z, checkS ⟨h, p, q, b⟩ ⟨id, frm, til⟩ = z := ⟨_, rfl⟩
    rw [hcn] at HRSG0 hsl0
    generalize signA ⟨h, p, q, b⟩ ⟨id, frm, til⟩ (secN sn) = sd at HRSG0 hsl0
    obtain ⟨sh, sp, sq, sb⟩ := sd
    have HRSG := Lib.hid HRSG0
    have HSL := Lib.hid hsl0
    clear HRSG0 hsl0 hcn
    have j0 := HK.out.bx.cell (i := 0) rfl; have j1 := HK.out.bx.cell (i := 1) rfl; have j2 := HK.out.bx.cell (i := 2) rfl; have j3 := HK.out.bx.cell (i := 3) rfl; have j4 := HK.out.bx.cell (i := 4) rfl; have j5 := HK.out.bx.cell (i := 5) rfl; have j6 := HK.out.bx.cell (i := 6) rfl; have j7 := HK.out.bx.cell (i := 7) rfl; have j8 := HK.out.bx.cell (i := 8) rfl; have j9 := HK.out.bx.cell (i := 9) rfl; have j10 := HK.out.bx.cell (i := 10) rfl
    have hjz := HK.out.bx.lt
    have hb7 := (Below.refl wr.heap.size wr).alloc (Nat.le_refl _) (.cells #[.string ⟨h.toArray⟩, .string ⟨p.toArray⟩, .string ⟨q.toArray⟩, .bool b] 63)
    have HK7 := Lib.hid (HK.out.older hb7)
    have HX7 := Lib.hid (Bx.new wr 63 #[.string ⟨h.toArray⟩, .string ⟨p.toArray⟩, .string ⟨q.toArray⟩, .bool b])
    have HB7 := Lib.hid hb7
    clear hb7
    go_upto_region 14 with fail
    obtain ⟨w7, hw7⟩ : ∃ z, wr.alloc (.cells #[.string ⟨h.toArray⟩, .string ⟨p.toArray⟩, .string ⟨q.toArray⟩, .bool b] 63) = z := ⟨_, rfl⟩
    rw [hw7] at HK7 HX7 HB7 ⊢
    clear hw7 j0 j1 j2 j3 j4 j5 j6 j7 j8 j9 j10 hjz
    obtain ⟨Q7, hQ7⟩ : ∃ z, wr.heap.size = z := ⟨_, rfl⟩
    have HQ7 := Lib.hid hQ7
    rw [hQ7] at HX7 ⊢
    clear hQ7
    have hqz := HX7.out.lt
    have HF7 := Lib.hid (show w7.cell? ⟨Q7, 0, none⟩ = some (.string ⟨h.toArray⟩) ∧ w7.cell? ⟨Q7, 1, none⟩ = some (.string ⟨p.toArray⟩) ∧ w7.cell? ⟨Q7, 2, none⟩ = some (.string ⟨q.toArray⟩) ∧ w7.cell? ⟨Q7, 3, none⟩ = some (.bool b) ∧ w7.cell? ⟨w.heap.size, 6, none⟩ = some (.string ⟨id.toArray⟩) ∧ w7.cell? ⟨w.heap.size, 7, none⟩ = some (.int .i64 frm) ∧ w7.cell? ⟨w.heap.size, 8, none⟩ = some (.int .i64 til) ∧ w7.cell? ⟨w.heap.size, 9, none⟩ = some (.int .u8 (sn : Int)) from ⟨HX7.out.cell (i := 0) rfl, HX7.out.cell (i := 1) rfl, HX7.out.cell (i := 2) rfl, HX7.out.cell (i := 3) rfl, HK7.out.bx.cell (i := 6) rfl, HK7.out.bx.cell (i := 7) rfl, HK7.out.bx.cell (i := 8) rfl, HK7.out.bx.cell (i := 9) rfl⟩)
    obtain ⟨a0, a1, a2, a3, t0, t1, t2, s0⟩ := HF7.out
    go_cut [8, 9] (fun s8 s9 wx => ∃ R8 : Nat, s8 = .pointer (some ⟨R8, 0, none⟩) ∧ s9 = .int .i64 cn ∧ Below w7.heap.size w7 wx ∧ Bx wx R8 63 #[.string ⟨sh.toArray⟩, .string ⟨sp.toArray⟩, .string ⟨sq.toArray⟩, .bool sb] ∧ Q7 < R8)
    case first =>
     refine wp_region_held_drew (S := fun w' => w'.cell? ⟨Q7, 0, none⟩ = some (.string ⟨h.toArray⟩) ∧ w'.cell? ⟨Q7, 1, none⟩ = some (.string ⟨p.toArray⟩) ∧ w'.cell? ⟨Q7, 2, none⟩ = some (.string ⟨q.toArray⟩) ∧ w'.cell? ⟨Q7, 3, none⟩ = some (.bool b) ∧ w'.cell? ⟨w.heap.size, 6, none⟩ = some (.string ⟨id.toArray⟩) ∧ w'.cell? ⟨w.heap.size, 7, none⟩ = some (.int .i64 frm) ∧ w'.cell? ⟨w.heap.size, 8, none⟩ = some (.int .i64 til) ∧ w'.cell? ⟨w.heap.size, 9, none⟩ = some (.int .u8 (sn : Int))) (by kernel_rfl) (by exact ⟨a0, a1, a2, a3, t0, t1, t2, s0⟩) (fun hHeld => ?_)
     have HB0d := Lib.hid (BelS.mk ((Below.refl w7.heap.size w7).drew))
     obtain ⟨wd, hwd⟩ : ∃ z, w7.drew = z := ⟨_, rfl⟩
     rw [hwd] at hHeld HB0d ⊢
     clear hwd
     clear a0 a1 a2 a3 t0 t1 t2 s0
     have a0 := keepC HB0d.out.bel HF7.out.1; have a1 := keepC HB0d.out.bel HF7.out.2.1; have a2 := keepC HB0d.out.bel HF7.out.2.2.1; have a3 := keepC HB0d.out.bel HF7.out.2.2.2.1; have t0 := keepC HB0d.out.bel HF7.out.2.2.2.2.1; have t1 := keepC HB0d.out.bel HF7.out.2.2.2.2.2.1; have t2 := keepC HB0d.out.bel HF7.out.2.2.2.2.2.2.1; have s0 := keepC HB0d.out.bel HF7.out.2.2.2.2.2.2.2
     refine Hd.tk 0 ?_
     try simp only [Act.put, List.setIfInBounds_toArray, List.set_cons_zero, List.set_cons_succ]
     refine Hd.tk 1 ?_
     try simp only [Act.put, List.setIfInBounds_toArray, List.set_cons_zero, List.set_cons_succ]
     refine Hd.tk 2 ?_
     try simp only [Act.put, List.setIfInBounds_toArray, List.set_cons_zero, List.set_cons_succ]
     refine Hd.tk 3 ?_
     try simp only [Act.put, List.setIfInBounds_toArray, List.set_cons_zero, List.set_cons_succ]
     refine Hd.tk 4 ?_
     try simp only [Act.put, List.setIfInBounds_toArray, List.set_cons_zero, List.set_cons_succ]
     refine wpAnyH_ready (rs := [5, 11]) (by kernel_rfl) (by simp) (AllReadyH.cons (by simp only [List.getElem?_toArray, List.getElem?_cons_succ, List.getElem?_cons_zero]; rfl) (fun K hK => ?_) (AllReadyH.cons (by simp only [List.getElem?_toArray, List.getElem?_cons_succ, List.getElem?_cons_zero]; rfl) (fun K hK => ?_) AllReadyH.nil))
     ·go_simp
      go_at_call 26
      refine (secret_any sn _ hsn).mono ?_
      rintro e v30 ⟨rfl, hb30⟩
      have HV30 := Lib.hid (HB0d.out.older hb30)
      clear a0 a1 a2 a3 t0 t1 t2 s0
      have a0 := keepC HV30.out.bel HF7.out.1; have a1 := keepC HV30.out.bel HF7.out.2.1; have a2 := keepC HV30.out.bel HF7.out.2.2.1; have a3 := keepC HV30.out.bel HF7.out.2.2.2.1; have t0 := keepC HV30.out.bel HF7.out.2.2.2.2.1; have t1 := keepC HV30.out.bel HF7.out.2.2.2.2.2.1; have t2 := keepC HV30.out.bel HF7.out.2.2.2.2.2.2.1; have s0 := keepC HV30.out.bel HF7.out.2.2.2.2.2.2.2
      clear hb30
      go_wp2_with fail
      refine hK.out _ _ (by exact ⟨a0, a1, a2, a3, t0, t1, t2, s0⟩) (fun hHf30 => ?_)
      clear hK K
      try simp only [Act.put, List.setIfInBounds_toArray, List.set_cons_zero, List.set_cons_succ]
      refine wpAnyH_ready (rs := [6, 11]) (by kernel_rfl) (by simp) (AllReadyH.cons (by simp only [List.getElem?_toArray, List.getElem?_cons_succ, List.getElem?_cons_zero]; rfl) (fun K hK => ?_) (AllReadyH.cons (by simp only [List.getElem?_toArray, List.getElem?_cons_succ, List.getElem?_cons_zero]; rfl) (fun K hK => ?_) AllReadyH.nil))
      ·go_simp
       have HV31 := Lib.hid (HV30.out.older (A1.bworld_below v30 (secN sn)))
       have HC31 := Lib.hid (bytesAt_src (c := A1.bcap v30 (secN sn)) (A1.bytesAt_new v30 (secN sn)))
       obtain ⟨v31, hv31⟩ : ∃ z, A1.bworld v30 (secN sn) = z := ⟨_, rfl⟩
       rw [hv31] at HV31 HC31 ⊢
       clear hv31
       clear a0 a1 a2 a3 t0 t1 t2 s0
       have a0 := keepC HV31.out.bel HF7.out.1; have a1 := keepC HV31.out.bel HF7.out.2.1; have a2 := keepC HV31.out.bel HF7.out.2.2.1; have a3 := keepC HV31.out.bel HF7.out.2.2.2.1; have t0 := keepC HV31.out.bel HF7.out.2.2.2.2.1; have t1 := keepC HV31.out.bel HF7.out.2.2.2.2.2.1; have t2 := keepC HV31.out.bel HF7.out.2.2.2.2.2.2.1; have s0 := keepC HV31.out.bel HF7.out.2.2.2.2.2.2.2
       refine hK.out _ _ (by exact ⟨a0, a1, a2, a3, t0, t1, t2, s0⟩) (fun hHf31 => ?_)
       clear hK K
       try simp only [Act.put, List.setIfInBounds_toArray, List.set_cons_zero, List.set_cons_succ]
       refine wpAnyH_ready (rs := [7, 11]) (by kernel_rfl) (by simp) (AllReadyH.cons (by simp only [List.getElem?_toArray, List.getElem?_cons_succ, List.getElem?_cons_zero]; rfl) (fun K hK => ?_) (AllReadyH.cons (by simp only [List.getElem?_toArray, List.getElem?_cons_succ, List.getElem?_cons_zero]; rfl) (fun K hK => ?_) AllReadyH.nil))
       ·go_simp
        go_at_call 28
        refine (HRSG.out _ _ _ HC31.out).mono ?_
        rintro e v32 ⟨rfl, hb32⟩
        have HV32 := Lib.hid (HV31.out.older hb32)
        have HC32 := Lib.hid (HC31.out.older hb32)
        clear a0 a1 a2 a3 t0 t1 t2 s0
        have a0 := keepC HV32.out.bel HF7.out.1; have a1 := keepC HV32.out.bel HF7.out.2.1; have a2 := keepC HV32.out.bel HF7.out.2.2.1; have a3 := keepC HV32.out.bel HF7.out.2.2.2.1; have t0 := keepC HV32.out.bel HF7.out.2.2.2.2.1; have t1 := keepC HV32.out.bel HF7.out.2.2.2.2.2.1; have t2 := keepC HV32.out.bel HF7.out.2.2.2.2.2.2.1; have s0 := keepC HV32.out.bel HF7.out.2.2.2.2.2.2.2
        clear hb32
        go_wp2_with fail
        refine hK.out _ _ (by exact ⟨a0, a1, a2, a3, t0, t1, t2, s0⟩) (fun hHf32 => ?_)
        clear hK K
        try simp only [Act.put, List.setIfInBounds_toArray, List.set_cons_zero, List.set_cons_succ]
        refine Hd.tk 8 ?_
        try simp only [Act.put, List.setIfInBounds_toArray, List.set_cons_zero, List.set_cons_succ]
        refine Hd.tk 9 ?_
        try simp only [Act.put, List.setIfInBounds_toArray, List.set_cons_zero, List.set_cons_succ]
        refine Hd.tk 10 ?_
        try simp only [Act.put, List.setIfInBounds_toArray, List.set_cons_zero, List.set_cons_succ]
        refine wpAnyH_ready (rs := [11]) (by kernel_rfl) (by simp) (AllReadyH.cons (by simp only [List.getElem?_toArray, List.getElem?_cons_succ, List.getElem?_cons_zero]; rfl) (fun K hK => ?_) AllReadyH.nil)
        go_simp
        have HV33 := Lib.hid (HV32.out.older ((Below.refl _ _).alloc (Nat.le_refl _) (.cells #[.string ⟨#[]⟩, .string ⟨#[]⟩, .string ⟨#[]⟩, .bool false] 63)))
        have HY33 := Lib.hid (Bx.new v32 63 #[.string ⟨#[]⟩, .string ⟨#[]⟩, .string ⟨#[]⟩, .bool false])
        have hR8 := HV32.out.bel.size
        have HC33 := Lib.hid (HC32.out.older ((Below.refl _ _).alloc (Nat.le_refl _) (.cells #[.string ⟨#[]⟩, .string ⟨#[]⟩, .string ⟨#[]⟩, .bool false] 63)))
        obtain ⟨v33, hwa33⟩ : ∃ z, (v32).alloc (.cells #[.string ⟨#[]⟩, .string ⟨#[]⟩, .string ⟨#[]⟩, .bool false] 63) = z := ⟨_, rfl⟩
        rw [hwa33] at HV33 HY33 HC33 ⊢
        clear hwa33
        clear a0 a1 a2 a3 t0 t1 t2 s0
        have a0 := keepC HV33.out.bel HF7.out.1; have a1 := keepC HV33.out.bel HF7.out.2.1; have a2 := keepC HV33.out.bel HF7.out.2.2.1; have a3 := keepC HV33.out.bel HF7.out.2.2.2.1; have t0 := keepC HV33.out.bel HF7.out.2.2.2.2.1; have t1 := keepC HV33.out.bel HF7.out.2.2.2.2.2.1; have t2 := keepC HV33.out.bel HF7.out.2.2.2.2.2.2.1; have s0 := keepC HV33.out.bel HF7.out.2.2.2.2.2.2.2
        have x0 := HY33.out.cell (i := 0) rfl; have x1 := HY33.out.cell (i := 1) rfl; have x2 := HY33.out.cell (i := 2) rfl; have x3 := HY33.out.cell (i := 3) rfl; have y0 := HY33.out.frz 0; have y1 := HY33.out.frz 1; have y2 := HY33.out.frz 2; have y3 := HY33.out.frz 3; have hx := HY33.out.lt
        refine hK.out _ _ (by exact ⟨a0, a1, a2, a3, t0, t1, t2, s0⟩) (fun hHf33 => ?_)
        clear hK K
        try simp only [Act.put, List.setIfInBounds_toArray, List.set_cons_zero, List.set_cons_succ]
        refine wpAnyH_ready (rs := [12]) (by kernel_rfl) (by simp) (AllReadyH.cons (by simp only [List.getElem?_toArray, List.getElem?_cons_succ, List.getElem?_cons_zero]; rfl) (fun K hK => ?_) AllReadyH.nil)
        go_simp
        have HZ9 := Lib.hid (HV33.out.set4 hR8 (.string ⟨sh.toArray⟩) (.string ⟨sp.toArray⟩) (.string ⟨sq.toArray⟩) (.bool sb))
        have HXZ := Lib.hid (show Bx ((((v33.setCell ⟨v32.heap.size, 0, none⟩ (.string ⟨sh.toArray⟩)).setCell ⟨v32.heap.size, 1, none⟩ (.string ⟨sp.toArray⟩)).setCell ⟨v32.heap.size, 2, none⟩ (.string ⟨sq.toArray⟩)).setCell ⟨v32.heap.size, 3, none⟩ (.bool sb)) v32.heap.size 63 #[.string ⟨sh.toArray⟩, .string ⟨sp.toArray⟩, .string ⟨sq.toArray⟩, .bool sb] from ((((HY33.out.set 0 (.string ⟨sh.toArray⟩)).set 1 (.string ⟨sp.toArray⟩)).set 2 (.string ⟨sq.toArray⟩)).set 3 (.bool sb)))
        obtain ⟨z9, hz9⟩ : ∃ z, ((((v33.setCell ⟨v32.heap.size, 0, none⟩ (.string ⟨sh.toArray⟩)).setCell ⟨v32.heap.size, 1, none⟩ (.string ⟨sp.toArray⟩)).setCell ⟨v32.heap.size, 2, none⟩ (.string ⟨sq.toArray⟩)).setCell ⟨v32.heap.size, 3, none⟩ (.bool sb)) = z := ⟨_, rfl⟩
        rw [hz9] at HZ9 HXZ ⊢
        clear hz9
        clear a0 a1 a2 a3 t0 t1 t2 s0
        clear x0 x1 x2 x3 y0 y1 y2 y3 hx
        have a0 := keepC HZ9.out.bel HF7.out.1; have a1 := keepC HZ9.out.bel HF7.out.2.1; have a2 := keepC HZ9.out.bel HF7.out.2.2.1; have a3 := keepC HZ9.out.bel HF7.out.2.2.2.1; have t0 := keepC HZ9.out.bel HF7.out.2.2.2.2.1; have t1 := keepC HZ9.out.bel HF7.out.2.2.2.2.2.1; have t2 := keepC HZ9.out.bel HF7.out.2.2.2.2.2.2.1; have s0 := keepC HZ9.out.bel HF7.out.2.2.2.2.2.2.2
        refine hK.out _ _ (by exact ⟨a0, a1, a2, a3, t0, t1, t2, s0⟩) (fun hHf9 => ?_)
        clear hK K
        try simp only [Act.put, List.setIfInBounds_toArray, List.set_cons_zero, List.set_cons_succ]
        refine Hd.tk 13 ?_
        try simp only [Act.put, List.setIfInBounds_toArray, List.set_cons_zero, List.set_cons_succ]
        refine wpAnyH_done (by kernel_rfl) ?_ _
        go_wp2_with fail
        go_meet
        exact ⟨_, rfl, rfl, HZ9.out.bel, HXZ.out, Nat.lt_of_lt_of_le hqz hR8⟩
       ·go_simp
        have HV32 := Lib.hid (HV31.out.older ((Below.refl _ _).alloc (Nat.le_refl _) (.cells #[.string ⟨#[]⟩, .string ⟨#[]⟩, .string ⟨#[]⟩, .bool false] 63)))
        have HY32 := Lib.hid (Bx.new v31 63 #[.string ⟨#[]⟩, .string ⟨#[]⟩, .string ⟨#[]⟩, .bool false])
        have hR8 := HV31.out.bel.size
        have HC32 := Lib.hid (HC31.out.older ((Below.refl _ _).alloc (Nat.le_refl _) (.cells #[.string ⟨#[]⟩, .string ⟨#[]⟩, .string ⟨#[]⟩, .bool false] 63)))
        obtain ⟨v32, hwa32⟩ : ∃ z, (v31).alloc (.cells #[.string ⟨#[]⟩, .string ⟨#[]⟩, .string ⟨#[]⟩, .bool false] 63) = z := ⟨_, rfl⟩
        rw [hwa32] at HV32 HY32 HC32 ⊢
        clear hwa32
        clear a0 a1 a2 a3 t0 t1 t2 s0
        have a0 := keepC HV32.out.bel HF7.out.1; have a1 := keepC HV32.out.bel HF7.out.2.1; have a2 := keepC HV32.out.bel HF7.out.2.2.1; have a3 := keepC HV32.out.bel HF7.out.2.2.2.1; have t0 := keepC HV32.out.bel HF7.out.2.2.2.2.1; have t1 := keepC HV32.out.bel HF7.out.2.2.2.2.2.1; have t2 := keepC HV32.out.bel HF7.out.2.2.2.2.2.2.1; have s0 := keepC HV32.out.bel HF7.out.2.2.2.2.2.2.2
        have x0 := HY32.out.cell (i := 0) rfl; have x1 := HY32.out.cell (i := 1) rfl; have x2 := HY32.out.cell (i := 2) rfl; have x3 := HY32.out.cell (i := 3) rfl; have y0 := HY32.out.frz 0; have y1 := HY32.out.frz 1; have y2 := HY32.out.frz 2; have y3 := HY32.out.frz 3; have hx := HY32.out.lt
        refine hK.out _ _ (by exact ⟨a0, a1, a2, a3, t0, t1, t2, s0⟩) (fun hHf32 => ?_)
        clear hK K
        try simp only [Act.put, List.setIfInBounds_toArray, List.set_cons_zero, List.set_cons_succ]
        refine wpAnyH_ready (rs := [7]) (by kernel_rfl) (by simp) (AllReadyH.cons (by simp only [List.getElem?_toArray, List.getElem?_cons_succ, List.getElem?_cons_zero]; rfl) (fun K hK => ?_) AllReadyH.nil)
        go_simp
        go_at_call 28
        refine (HRSG.out _ _ _ HC32.out).mono ?_
        rintro e v33 ⟨rfl, hb33⟩
        have HV33 := Lib.hid (HV32.out.older hb33)
        have HY33 := Lib.hid (HY32.out.older hb33)
        clear x0 x1 x2 x3 y0 y1 y2 y3 hx
        have x0 := HY33.out.cell (i := 0) rfl; have x1 := HY33.out.cell (i := 1) rfl; have x2 := HY33.out.cell (i := 2) rfl; have x3 := HY33.out.cell (i := 3) rfl; have y0 := HY33.out.frz 0; have y1 := HY33.out.frz 1; have y2 := HY33.out.frz 2; have y3 := HY33.out.frz 3; have hx := HY33.out.lt
        have HC33 := Lib.hid (HC32.out.older hb33)
        clear a0 a1 a2 a3 t0 t1 t2 s0
        have a0 := keepC HV33.out.bel HF7.out.1; have a1 := keepC HV33.out.bel HF7.out.2.1; have a2 := keepC HV33.out.bel HF7.out.2.2.1; have a3 := keepC HV33.out.bel HF7.out.2.2.2.1; have t0 := keepC HV33.out.bel HF7.out.2.2.2.2.1; have t1 := keepC HV33.out.bel HF7.out.2.2.2.2.2.1; have t2 := keepC HV33.out.bel HF7.out.2.2.2.2.2.2.1; have s0 := keepC HV33.out.bel HF7.out.2.2.2.2.2.2.2
        clear hb33
        go_wp2_with fail
        refine hK.out _ _ (by exact ⟨a0, a1, a2, a3, t0, t1, t2, s0⟩) (fun hHf33 => ?_)
        clear hK K
        try simp only [Act.put, List.setIfInBounds_toArray, List.set_cons_zero, List.set_cons_succ]
        refine Hd.tk 8 ?_
        try simp only [Act.put, List.setIfInBounds_toArray, List.set_cons_zero, List.set_cons_succ]
        refine Hd.tk 9 ?_
        try simp only [Act.put, List.setIfInBounds_toArray, List.set_cons_zero, List.set_cons_succ]
        refine Hd.tk 10 ?_
        try simp only [Act.put, List.setIfInBounds_toArray, List.set_cons_zero, List.set_cons_succ]
        refine wpAnyH_ready (rs := [12]) (by kernel_rfl) (by simp) (AllReadyH.cons (by simp only [List.getElem?_toArray, List.getElem?_cons_succ, List.getElem?_cons_zero]; rfl) (fun K hK => ?_) AllReadyH.nil)
        go_simp
        have HZ9 := Lib.hid (HV33.out.set4 hR8 (.string ⟨sh.toArray⟩) (.string ⟨sp.toArray⟩) (.string ⟨sq.toArray⟩) (.bool sb))
        have HXZ := Lib.hid (show Bx ((((v33.setCell ⟨v31.heap.size, 0, none⟩ (.string ⟨sh.toArray⟩)).setCell ⟨v31.heap.size, 1, none⟩ (.string ⟨sp.toArray⟩)).setCell ⟨v31.heap.size, 2, none⟩ (.string ⟨sq.toArray⟩)).setCell ⟨v31.heap.size, 3, none⟩ (.bool sb)) v31.heap.size 63 #[.string ⟨sh.toArray⟩, .string ⟨sp.toArray⟩, .string ⟨sq.toArray⟩, .bool sb] from ((((HY33.out.set 0 (.string ⟨sh.toArray⟩)).set 1 (.string ⟨sp.toArray⟩)).set 2 (.string ⟨sq.toArray⟩)).set 3 (.bool sb)))
        obtain ⟨z9, hz9⟩ : ∃ z, ((((v33.setCell ⟨v31.heap.size, 0, none⟩ (.string ⟨sh.toArray⟩)).setCell ⟨v31.heap.size, 1, none⟩ (.string ⟨sp.toArray⟩)).setCell ⟨v31.heap.size, 2, none⟩ (.string ⟨sq.toArray⟩)).setCell ⟨v31.heap.size, 3, none⟩ (.bool sb)) = z := ⟨_, rfl⟩
        rw [hz9] at HZ9 HXZ ⊢
        clear hz9
        clear a0 a1 a2 a3 t0 t1 t2 s0
        clear x0 x1 x2 x3 y0 y1 y2 y3 hx
        have a0 := keepC HZ9.out.bel HF7.out.1; have a1 := keepC HZ9.out.bel HF7.out.2.1; have a2 := keepC HZ9.out.bel HF7.out.2.2.1; have a3 := keepC HZ9.out.bel HF7.out.2.2.2.1; have t0 := keepC HZ9.out.bel HF7.out.2.2.2.2.1; have t1 := keepC HZ9.out.bel HF7.out.2.2.2.2.2.1; have t2 := keepC HZ9.out.bel HF7.out.2.2.2.2.2.2.1; have s0 := keepC HZ9.out.bel HF7.out.2.2.2.2.2.2.2
        refine hK.out _ _ (by exact ⟨a0, a1, a2, a3, t0, t1, t2, s0⟩) (fun hHf9 => ?_)
        clear hK K
        try simp only [Act.put, List.setIfInBounds_toArray, List.set_cons_zero, List.set_cons_succ]
        refine Hd.tk 13 ?_
        try simp only [Act.put, List.setIfInBounds_toArray, List.set_cons_zero, List.set_cons_succ]
        refine wpAnyH_done (by kernel_rfl) ?_ _
        go_wp2_with fail
        go_meet
        exact ⟨_, rfl, rfl, HZ9.out.bel, HXZ.out, Nat.lt_of_lt_of_le hqz hR8⟩
      ·go_simp
       have HV31 := Lib.hid (HV30.out.older ((Below.refl _ _).alloc (Nat.le_refl _) (.cells #[.string ⟨#[]⟩, .string ⟨#[]⟩, .string ⟨#[]⟩, .bool false] 63)))
       have HY31 := Lib.hid (Bx.new v30 63 #[.string ⟨#[]⟩, .string ⟨#[]⟩, .string ⟨#[]⟩, .bool false])
       have hR8 := HV30.out.bel.size
       obtain ⟨v31, hwa31⟩ : ∃ z, (v30).alloc (.cells #[.string ⟨#[]⟩, .string ⟨#[]⟩, .string ⟨#[]⟩, .bool false] 63) = z := ⟨_, rfl⟩
       rw [hwa31] at HV31 HY31 ⊢
       clear hwa31
       clear a0 a1 a2 a3 t0 t1 t2 s0
       have a0 := keepC HV31.out.bel HF7.out.1; have a1 := keepC HV31.out.bel HF7.out.2.1; have a2 := keepC HV31.out.bel HF7.out.2.2.1; have a3 := keepC HV31.out.bel HF7.out.2.2.2.1; have t0 := keepC HV31.out.bel HF7.out.2.2.2.2.1; have t1 := keepC HV31.out.bel HF7.out.2.2.2.2.2.1; have t2 := keepC HV31.out.bel HF7.out.2.2.2.2.2.2.1; have s0 := keepC HV31.out.bel HF7.out.2.2.2.2.2.2.2
       have x0 := HY31.out.cell (i := 0) rfl; have x1 := HY31.out.cell (i := 1) rfl; have x2 := HY31.out.cell (i := 2) rfl; have x3 := HY31.out.cell (i := 3) rfl; have y0 := HY31.out.frz 0; have y1 := HY31.out.frz 1; have y2 := HY31.out.frz 2; have y3 := HY31.out.frz 3; have hx := HY31.out.lt
       refine hK.out _ _ (by exact ⟨a0, a1, a2, a3, t0, t1, t2, s0⟩) (fun hHf31 => ?_)
       clear hK K
       try simp only [Act.put, List.setIfInBounds_toArray, List.set_cons_zero, List.set_cons_succ]
       refine wpAnyH_ready (rs := [6]) (by kernel_rfl) (by simp) (AllReadyH.cons (by simp only [List.getElem?_toArray, List.getElem?_cons_succ, List.getElem?_cons_zero]; rfl) (fun K hK => ?_) AllReadyH.nil)
       go_simp
       have HV32 := Lib.hid (HV31.out.older (A1.bworld_below v31 (secN sn)))
       have HC32 := Lib.hid (bytesAt_src (c := A1.bcap v31 (secN sn)) (A1.bytesAt_new v31 (secN sn)))
       have HY32 := Lib.hid (HY31.out.older (A1.bworld_below v31 (secN sn)))
       clear x0 x1 x2 x3 y0 y1 y2 y3 hx
       obtain ⟨v32, hv32⟩ : ∃ z, A1.bworld v31 (secN sn) = z := ⟨_, rfl⟩
       rw [hv32] at HV32 HC32 HY32 ⊢
       clear hv32
       have x0 := HY32.out.cell (i := 0) rfl; have x1 := HY32.out.cell (i := 1) rfl; have x2 := HY32.out.cell (i := 2) rfl; have x3 := HY32.out.cell (i := 3) rfl; have y0 := HY32.out.frz 0; have y1 := HY32.out.frz 1; have y2 := HY32.out.frz 2; have y3 := HY32.out.frz 3; have hx := HY32.out.lt
       clear a0 a1 a2 a3 t0 t1 t2 s0
       have a0 := keepC HV32.out.bel HF7.out.1; have a1 := keepC HV32.out.bel HF7.out.2.1; have a2 := keepC HV32.out.bel HF7.out.2.2.1; have a3 := keepC HV32.out.bel HF7.out.2.2.2.1; have t0 := keepC HV32.out.bel HF7.out.2.2.2.2.1; have t1 := keepC HV32.out.bel HF7.out.2.2.2.2.2.1; have t2 := keepC HV32.out.bel HF7.out.2.2.2.2.2.2.1; have s0 := keepC HV32.out.bel HF7.out.2.2.2.2.2.2.2
       refine hK.out _ _ (by exact ⟨a0, a1, a2, a3, t0, t1, t2, s0⟩) (fun hHf32 => ?_)
       clear hK K
       try simp only [Act.put, List.setIfInBounds_toArray, List.set_cons_zero, List.set_cons_succ]
       refine wpAnyH_ready (rs := [7]) (by kernel_rfl) (by simp) (AllReadyH.cons (by simp only [List.getElem?_toArray, List.getElem?_cons_succ, List.getElem?_cons_zero]; rfl) (fun K hK => ?_) AllReadyH.nil)
       go_simp
       go_at_call 28
       refine (HRSG.out _ _ _ HC32.out).mono ?_
       rintro e v33 ⟨rfl, hb33⟩
       have HV33 := Lib.hid (HV32.out.older hb33)
       have HY33 := Lib.hid (HY32.out.older hb33)
       clear x0 x1 x2 x3 y0 y1 y2 y3 hx
       have x0 := HY33.out.cell (i := 0) rfl; have x1 := HY33.out.cell (i := 1) rfl; have x2 := HY33.out.cell (i := 2) rfl; have x3 := HY33.out.cell (i := 3) rfl; have y0 := HY33.out.frz 0; have y1 := HY33.out.frz 1; have y2 := HY33.out.frz 2; have y3 := HY33.out.frz 3; have hx := HY33.out.lt
       have HC33 := Lib.hid (HC32.out.older hb33)
       clear a0 a1 a2 a3 t0 t1 t2 s0
       have a0 := keepC HV33.out.bel HF7.out.1; have a1 := keepC HV33.out.bel HF7.out.2.1; have a2 := keepC HV33.out.bel HF7.out.2.2.1; have a3 := keepC HV33.out.bel HF7.out.2.2.2.1; have t0 := keepC HV33.out.bel HF7.out.2.2.2.2.1; have t1 := keepC HV33.out.bel HF7.out.2.2.2.2.2.1; have t2 := keepC HV33.out.bel HF7.out.2.2.2.2.2.2.1; have s0 := keepC HV33.out.bel HF7.out.2.2.2.2.2.2.2
       clear hb33
       go_wp2_with fail
       refine hK.out _ _ (by exact ⟨a0, a1, a2, a3, t0, t1, t2, s0⟩) (fun hHf33 => ?_)
       clear hK K
       try simp only [Act.put, List.setIfInBounds_toArray, List.set_cons_zero, List.set_cons_succ]
       refine Hd.tk 8 ?_
       try simp only [Act.put, List.setIfInBounds_toArray, List.set_cons_zero, List.set_cons_succ]
       refine Hd.tk 9 ?_
       try simp only [Act.put, List.setIfInBounds_toArray, List.set_cons_zero, List.set_cons_succ]
       refine Hd.tk 10 ?_
       try simp only [Act.put, List.setIfInBounds_toArray, List.set_cons_zero, List.set_cons_succ]
       refine wpAnyH_ready (rs := [12]) (by kernel_rfl) (by simp) (AllReadyH.cons (by simp only [List.getElem?_toArray, List.getElem?_cons_succ, List.getElem?_cons_zero]; rfl) (fun K hK => ?_) AllReadyH.nil)
       go_simp
       have HZ9 := Lib.hid (HV33.out.set4 hR8 (.string ⟨sh.toArray⟩) (.string ⟨sp.toArray⟩) (.string ⟨sq.toArray⟩) (.bool sb))
       have HXZ := Lib.hid (show Bx ((((v33.setCell ⟨v30.heap.size, 0, none⟩ (.string ⟨sh.toArray⟩)).setCell ⟨v30.heap.size, 1, none⟩ (.string ⟨sp.toArray⟩)).setCell ⟨v30.heap.size, 2, none⟩ (.string ⟨sq.toArray⟩)).setCell ⟨v30.heap.size, 3, none⟩ (.bool sb)) v30.heap.size 63 #[.string ⟨sh.toArray⟩, .string ⟨sp.toArray⟩, .string ⟨sq.toArray⟩, .bool sb] from ((((HY33.out.set 0 (.string ⟨sh.toArray⟩)).set 1 (.string ⟨sp.toArray⟩)).set 2 (.string ⟨sq.toArray⟩)).set 3 (.bool sb)))
       obtain ⟨z9, hz9⟩ : ∃ z, ((((v33.setCell ⟨v30.heap.size, 0, none⟩ (.string ⟨sh.toArray⟩)).setCell ⟨v30.heap.size, 1, none⟩ (.string ⟨sp.toArray⟩)).setCell ⟨v30.heap.size, 2, none⟩ (.string ⟨sq.toArray⟩)).setCell ⟨v30.heap.size, 3, none⟩ (.bool sb)) = z := ⟨_, rfl⟩
       rw [hz9] at HZ9 HXZ ⊢
       clear hz9
       clear a0 a1 a2 a3 t0 t1 t2 s0
       clear x0 x1 x2 x3 y0 y1 y2 y3 hx
       have a0 := keepC HZ9.out.bel HF7.out.1; have a1 := keepC HZ9.out.bel HF7.out.2.1; have a2 := keepC HZ9.out.bel HF7.out.2.2.1; have a3 := keepC HZ9.out.bel HF7.out.2.2.2.1; have t0 := keepC HZ9.out.bel HF7.out.2.2.2.2.1; have t1 := keepC HZ9.out.bel HF7.out.2.2.2.2.2.1; have t2 := keepC HZ9.out.bel HF7.out.2.2.2.2.2.2.1; have s0 := keepC HZ9.out.bel HF7.out.2.2.2.2.2.2.2
       refine hK.out _ _ (by exact ⟨a0, a1, a2, a3, t0, t1, t2, s0⟩) (fun hHf9 => ?_)
       clear hK K
       try simp only [Act.put, List.setIfInBounds_toArray, List.set_cons_zero, List.set_cons_succ]
       refine Hd.tk 13 ?_
       try simp only [Act.put, List.setIfInBounds_toArray, List.set_cons_zero, List.set_cons_succ]
       refine wpAnyH_done (by kernel_rfl) ?_ _
       go_wp2_with fail
       go_meet
       exact ⟨_, rfl, rfl, HZ9.out.bel, HXZ.out, Nat.lt_of_lt_of_le hqz hR8⟩
     ·go_simp
      have HV30 := Lib.hid (HB0d.out.older ((Below.refl _ _).alloc (Nat.le_refl _) (.cells #[.string ⟨#[]⟩, .string ⟨#[]⟩, .string ⟨#[]⟩, .bool false] 63)))
      have HY30 := Lib.hid (Bx.new wd 63 #[.string ⟨#[]⟩, .string ⟨#[]⟩, .string ⟨#[]⟩, .bool false])
      have hR8 := HB0d.out.bel.size
      obtain ⟨v30, hwa30⟩ : ∃ z, (wd).alloc (.cells #[.string ⟨#[]⟩, .string ⟨#[]⟩, .string ⟨#[]⟩, .bool false] 63) = z := ⟨_, rfl⟩
      rw [hwa30] at HV30 HY30 ⊢
      clear hwa30
      clear a0 a1 a2 a3 t0 t1 t2 s0
      have a0 := keepC HV30.out.bel HF7.out.1; have a1 := keepC HV30.out.bel HF7.out.2.1; have a2 := keepC HV30.out.bel HF7.out.2.2.1; have a3 := keepC HV30.out.bel HF7.out.2.2.2.1; have t0 := keepC HV30.out.bel HF7.out.2.2.2.2.1; have t1 := keepC HV30.out.bel HF7.out.2.2.2.2.2.1; have t2 := keepC HV30.out.bel HF7.out.2.2.2.2.2.2.1; have s0 := keepC HV30.out.bel HF7.out.2.2.2.2.2.2.2
      have x0 := HY30.out.cell (i := 0) rfl; have x1 := HY30.out.cell (i := 1) rfl; have x2 := HY30.out.cell (i := 2) rfl; have x3 := HY30.out.cell (i := 3) rfl; have y0 := HY30.out.frz 0; have y1 := HY30.out.frz 1; have y2 := HY30.out.frz 2; have y3 := HY30.out.frz 3; have hx := HY30.out.lt
      refine hK.out _ _ (by exact ⟨a0, a1, a2, a3, t0, t1, t2, s0⟩) (fun hHf30 => ?_)
      clear hK K
      try simp only [Act.put, List.setIfInBounds_toArray, List.set_cons_zero, List.set_cons_succ]
      refine wpAnyH_ready (rs := [5]) (by kernel_rfl) (by simp) (AllReadyH.cons (by simp only [List.getElem?_toArray, List.getElem?_cons_succ, List.getElem?_cons_zero]; rfl) (fun K hK => ?_) AllReadyH.nil)
      go_simp
      go_at_call 26
      refine (secret_any sn _ hsn).mono ?_
      rintro e v31 ⟨rfl, hb31⟩
      have HV31 := Lib.hid (HV30.out.older hb31)
      have HY31 := Lib.hid (HY30.out.older hb31)
      clear x0 x1 x2 x3 y0 y1 y2 y3 hx
      have x0 := HY31.out.cell (i := 0) rfl; have x1 := HY31.out.cell (i := 1) rfl; have x2 := HY31.out.cell (i := 2) rfl; have x3 := HY31.out.cell (i := 3) rfl; have y0 := HY31.out.frz 0; have y1 := HY31.out.frz 1; have y2 := HY31.out.frz 2; have y3 := HY31.out.frz 3; have hx := HY31.out.lt
      clear a0 a1 a2 a3 t0 t1 t2 s0
      have a0 := keepC HV31.out.bel HF7.out.1; have a1 := keepC HV31.out.bel HF7.out.2.1; have a2 := keepC HV31.out.bel HF7.out.2.2.1; have a3 := keepC HV31.out.bel HF7.out.2.2.2.1; have t0 := keepC HV31.out.bel HF7.out.2.2.2.2.1; have t1 := keepC HV31.out.bel HF7.out.2.2.2.2.2.1; have t2 := keepC HV31.out.bel HF7.out.2.2.2.2.2.2.1; have s0 := keepC HV31.out.bel HF7.out.2.2.2.2.2.2.2
      clear hb31
      go_wp2_with fail
      refine hK.out _ _ (by exact ⟨a0, a1, a2, a3, t0, t1, t2, s0⟩) (fun hHf31 => ?_)
      clear hK K
      try simp only [Act.put, List.setIfInBounds_toArray, List.set_cons_zero, List.set_cons_succ]
      refine wpAnyH_ready (rs := [6]) (by kernel_rfl) (by simp) (AllReadyH.cons (by simp only [List.getElem?_toArray, List.getElem?_cons_succ, List.getElem?_cons_zero]; rfl) (fun K hK => ?_) AllReadyH.nil)
      go_simp
      have HV32 := Lib.hid (HV31.out.older (A1.bworld_below v31 (secN sn)))
      have HC32 := Lib.hid (bytesAt_src (c := A1.bcap v31 (secN sn)) (A1.bytesAt_new v31 (secN sn)))
      have HY32 := Lib.hid (HY31.out.older (A1.bworld_below v31 (secN sn)))
      clear x0 x1 x2 x3 y0 y1 y2 y3 hx
      obtain ⟨v32, hv32⟩ : ∃ z, A1.bworld v31 (secN sn) = z := ⟨_, rfl⟩
      rw [hv32] at HV32 HC32 HY32 ⊢
      clear hv32
      have x0 := HY32.out.cell (i := 0) rfl; have x1 := HY32.out.cell (i := 1) rfl; have x2 := HY32.out.cell (i := 2) rfl; have x3 := HY32.out.cell (i := 3) rfl; have y0 := HY32.out.frz 0; have y1 := HY32.out.frz 1; have y2 := HY32.out.frz 2; have y3 := HY32.out.frz 3; have hx := HY32.out.lt
      clear a0 a1 a2 a3 t0 t1 t2 s0
      have a0 := keepC HV32.out.bel HF7.out.1; have a1 := keepC HV32.out.bel HF7.out.2.1; have a2 := keepC HV32.out.bel HF7.out.2.2.1; have a3 := keepC HV32.out.bel HF7.out.2.2.2.1; have t0 := keepC HV32.out.bel HF7.out.2.2.2.2.1; have t1 := keepC HV32.out.bel HF7.out.2.2.2.2.2.1; have t2 := keepC HV32.out.bel HF7.out.2.2.2.2.2.2.1; have s0 := keepC HV32.out.bel HF7.out.2.2.2.2.2.2.2
      refine hK.out _ _ (by exact ⟨a0, a1, a2, a3, t0, t1, t2, s0⟩) (fun hHf32 => ?_)
      clear hK K
      try simp only [Act.put, List.setIfInBounds_toArray, List.set_cons_zero, List.set_cons_succ]
      refine wpAnyH_ready (rs := [7]) (by kernel_rfl) (by simp) (AllReadyH.cons (by simp only [List.getElem?_toArray, List.getElem?_cons_succ, List.getElem?_cons_zero]; rfl) (fun K hK => ?_) AllReadyH.nil)
      go_simp
      go_at_call 28
      refine (HRSG.out _ _ _ HC32.out).mono ?_
      rintro e v33 ⟨rfl, hb33⟩
      have HV33 := Lib.hid (HV32.out.older hb33)
      have HY33 := Lib.hid (HY32.out.older hb33)
      clear x0 x1 x2 x3 y0 y1 y2 y3 hx
      have x0 := HY33.out.cell (i := 0) rfl; have x1 := HY33.out.cell (i := 1) rfl; have x2 := HY33.out.cell (i := 2) rfl; have x3 := HY33.out.cell (i := 3) rfl; have y0 := HY33.out.frz 0; have y1 := HY33.out.frz 1; have y2 := HY33.out.frz 2; have y3 := HY33.out.frz 3; have hx := HY33.out.lt
      have HC33 := Lib.hid (HC32.out.older hb33)
      clear a0 a1 a2 a3 t0 t1 t2 s0
      have a0 := keepC HV33.out.bel HF7.out.1; have a1 := keepC HV33.out.bel HF7.out.2.1; have a2 := keepC HV33.out.bel HF7.out.2.2.1; have a3 := keepC HV33.out.bel HF7.out.2.2.2.1; have t0 := keepC HV33.out.bel HF7.out.2.2.2.2.1; have t1 := keepC HV33.out.bel HF7.out.2.2.2.2.2.1; have t2 := keepC HV33.out.bel HF7.out.2.2.2.2.2.2.1; have s0 := keepC HV33.out.bel HF7.out.2.2.2.2.2.2.2
      clear hb33
      go_wp2_with fail
      refine hK.out _ _ (by exact ⟨a0, a1, a2, a3, t0, t1, t2, s0⟩) (fun hHf33 => ?_)
      clear hK K
      try simp only [Act.put, List.setIfInBounds_toArray, List.set_cons_zero, List.set_cons_succ]
      refine Hd.tk 8 ?_
      try simp only [Act.put, List.setIfInBounds_toArray, List.set_cons_zero, List.set_cons_succ]
      refine Hd.tk 9 ?_
      try simp only [Act.put, List.setIfInBounds_toArray, List.set_cons_zero, List.set_cons_succ]
      refine Hd.tk 10 ?_
      try simp only [Act.put, List.setIfInBounds_toArray, List.set_cons_zero, List.set_cons_succ]
      refine wpAnyH_ready (rs := [12]) (by kernel_rfl) (by simp) (AllReadyH.cons (by simp only [List.getElem?_toArray, List.getElem?_cons_succ, List.getElem?_cons_zero]; rfl) (fun K hK => ?_) AllReadyH.nil)
      go_simp
      have HZ9 := Lib.hid (HV33.out.set4 hR8 (.string ⟨sh.toArray⟩) (.string ⟨sp.toArray⟩) (.string ⟨sq.toArray⟩) (.bool sb))
      have HXZ := Lib.hid (show Bx ((((v33.setCell ⟨wd.heap.size, 0, none⟩ (.string ⟨sh.toArray⟩)).setCell ⟨wd.heap.size, 1, none⟩ (.string ⟨sp.toArray⟩)).setCell ⟨wd.heap.size, 2, none⟩ (.string ⟨sq.toArray⟩)).setCell ⟨wd.heap.size, 3, none⟩ (.bool sb)) wd.heap.size 63 #[.string ⟨sh.toArray⟩, .string ⟨sp.toArray⟩, .string ⟨sq.toArray⟩, .bool sb] from ((((HY33.out.set 0 (.string ⟨sh.toArray⟩)).set 1 (.string ⟨sp.toArray⟩)).set 2 (.string ⟨sq.toArray⟩)).set 3 (.bool sb)))
      obtain ⟨z9, hz9⟩ : ∃ z, ((((v33.setCell ⟨wd.heap.size, 0, none⟩ (.string ⟨sh.toArray⟩)).setCell ⟨wd.heap.size, 1, none⟩ (.string ⟨sp.toArray⟩)).setCell ⟨wd.heap.size, 2, none⟩ (.string ⟨sq.toArray⟩)).setCell ⟨wd.heap.size, 3, none⟩ (.bool sb)) = z := ⟨_, rfl⟩
      rw [hz9] at HZ9 HXZ ⊢
      clear hz9
      clear a0 a1 a2 a3 t0 t1 t2 s0
      clear x0 x1 x2 x3 y0 y1 y2 y3 hx
      have a0 := keepC HZ9.out.bel HF7.out.1; have a1 := keepC HZ9.out.bel HF7.out.2.1; have a2 := keepC HZ9.out.bel HF7.out.2.2.1; have a3 := keepC HZ9.out.bel HF7.out.2.2.2.1; have t0 := keepC HZ9.out.bel HF7.out.2.2.2.2.1; have t1 := keepC HZ9.out.bel HF7.out.2.2.2.2.2.1; have t2 := keepC HZ9.out.bel HF7.out.2.2.2.2.2.2.1; have s0 := keepC HZ9.out.bel HF7.out.2.2.2.2.2.2.2
      refine hK.out _ _ (by exact ⟨a0, a1, a2, a3, t0, t1, t2, s0⟩) (fun hHf9 => ?_)
      clear hK K
      try simp only [Act.put, List.setIfInBounds_toArray, List.set_cons_zero, List.set_cons_succ]
      refine Hd.tk 13 ?_
      try simp only [Act.put, List.setIfInBounds_toArray, List.set_cons_zero, List.set_cons_succ]
      refine wpAnyH_done (by kernel_rfl) ?_ _
      go_wp2_with fail
      go_meet
      exact ⟨_, rfl, rfl, HZ9.out.bel, HXZ.out, Nat.lt_of_lt_of_le hqz hR8⟩
    case rest =>
     obtain ⟨R8, rfl, rfl, hbx, hx8, hq8⟩ := hcut
     have HX8 := Lib.hid hx8
     have HX7c := Lib.hid (HX7.out.older hbx)
     have HBc := Lib.hid (HB7.out.trans (hbx.mono HB7.out.size))
     clear hbx hx8 hqz
     by_cases hc : cn = 0
     ·have hl3 := HSL.out hc
      simp only at hl3
      obtain ⟨l1, l2, l3⟩ := hl3
      clear HSL HRSG
      subst hc
      have e0 := HX8.out.cell (i := 0) rfl
      have e1 := HX8.out.cell (i := 1) rfl
      have e2 := HX8.out.cell (i := 2) rfl
      have e3 := HX8.out.cell (i := 3) rfl
      have x0 := HX7c.out.cell (i := 0) rfl; have x1 := HX7c.out.cell (i := 1) rfl; have x2 := HX7c.out.cell (i := 2) rfl; have x3 := HX7c.out.cell (i := 3) rfl; have y0 := HX7c.out.frz 0; have y1 := HX7c.out.frz 1; have y2 := HX7c.out.frz 2; have y3 := HX7c.out.frz 3; have hx := HX7c.out.lt
      go_upto_region 17 with fail
      have HB10 := Lib.hid (Box.set HBc.out (Nat.le_of_eq HQ7.out) (.string ⟨sh.toArray⟩) (.string ⟨sp.toArray⟩) (.string ⟨sq.toArray⟩) (.bool sb))
      have HX10 := Lib.hid (show Bx ((((wc.setCell ⟨Q7, 0, none⟩ (.string ⟨sh.toArray⟩)).setCell ⟨Q7, 1, none⟩ (.string ⟨sp.toArray⟩)).setCell ⟨Q7, 2, none⟩ (.string ⟨sq.toArray⟩)).setCell ⟨Q7, 3, none⟩ (.bool sb)) Q7 63 #[.string ⟨sh.toArray⟩, .string ⟨sp.toArray⟩, .string ⟨sq.toArray⟩, .bool sb] from ((((HX7c.out.set 0 (.string ⟨sh.toArray⟩)).set 1 (.string ⟨sp.toArray⟩)).set 2 (.string ⟨sq.toArray⟩)).set 3 (.bool sb)))
      obtain ⟨w10, hw10⟩ : ∃ z, ((((wc.setCell ⟨Q7, 0, none⟩ (.string ⟨sh.toArray⟩)).setCell ⟨Q7, 1, none⟩ (.string ⟨sp.toArray⟩)).setCell ⟨Q7, 2, none⟩ (.string ⟨sq.toArray⟩)).setCell ⟨Q7, 3, none⟩ (.bool sb)) = z := ⟨_, rfl⟩
      rw [hw10] at HB10 HX10 ⊢
      clear hw10 e0 e1 e2 e3 x0 x1 x2 x3 y0 y1 y2 y3 hx
      have HK10 := Lib.hid (HK.out.older HB10.out)
      have HG10 := Lib.hid (HGR.out.below HB10.out)
      have HBX := Lib.hid HBR.out
      obtain ⟨m, hm⟩ : ∃ m, tn % 3 = m := ⟨_, rfl⟩
      have hm3 : m < 3 := by omega
      have hmi : (tn : Int) % 3 = (m : Int) := by omega
      have hmt : Int.tmod (tn : Int) 3 = (m : Int) := by rw [Int.tmod_eq_emod_of_nonneg (by omega)]; exact hmi
      have hlm := pls_len HK.out.pl (m : Int)
      have HKV0 := fun wz hz hr => kverify_any w1.heap.size R (m : Int) ⟨sh, sp, sq, sb⟩ now V E wz hz hr (by omega) (pls_sec HK.out.pl (m : Int)) (by simp only; omega) (by simp only; omega) (by simp only; omega)
      have hf : (fun id => (findE (tlK E (m : Int)) id).map Ent.key) = keyF ml (m : Int) := funext fun id => pls_find HK.out.pl (m : Int) id
      rw [hf] at HKV0
      have HRV0 := fun wz hr => krverify_any w1.heap.size (.slice la ml.length lc) ml (m : Int) ⟨sh, sp, sq, sb⟩ now wz hr (by omega) HK.out.pl.sec (by simp only; omega) (by simp only; omega) (by simp only; omega)
      obtain ⟨rc, hrc⟩ : ∃ z, ringC (keyF ml (m : Int)) ⟨sh, sp, sq, sb⟩ now = z := ⟨_, rfl⟩
      rw [hrc] at HKV0 HRV0
      have HNUM0 := fun wz => Sg.num_any rc wz
      obtain ⟨ev, hev⟩ : ∃ z, Sg.errC rc = z := ⟨_, rfl⟩
      rw [hev] at HKV0 HNUM0
      generalize ringA (keyF ml (m : Int)) ⟨sh, sp, sq, sb⟩ now = xd at HKV0 HRV0
      obtain ⟨xh, xp, xq, xb⟩ := xd
      have HKV := Lib.hid HKV0
      have HRV := Lib.hid HRV0
      have HNUM := Lib.hid HNUM0
      clear HKV0 HRV0 HNUM0 hf hrc hev hlm hm l1 l2 l3
      have j0 := HK10.out.bx.cell (i := 0) rfl; have j1 := HK10.out.bx.cell (i := 1) rfl; have j2 := HK10.out.bx.cell (i := 2) rfl; have j3 := HK10.out.bx.cell (i := 3) rfl; have j4 := HK10.out.bx.cell (i := 4) rfl; have j5 := HK10.out.bx.cell (i := 5) rfl; have j6 := HK10.out.bx.cell (i := 6) rfl; have j7 := HK10.out.bx.cell (i := 7) rfl; have j8 := HK10.out.bx.cell (i := 8) rfl; have j9 := HK10.out.bx.cell (i := 9) rfl; have j10 := HK10.out.bx.cell (i := 10) rfl
      have hjz := HK10.out.bx.lt
      go_upto_region 18 with fail
      clear j0 j1 j2 j3 j4 j5 j6 j7 j8 j9 j10 hjz
      have HF10 := Lib.hid (show w10.cell? ⟨Q7, 0, none⟩ = some (.string ⟨sh.toArray⟩) ∧ w10.cell? ⟨Q7, 1, none⟩ = some (.string ⟨sp.toArray⟩) ∧ w10.cell? ⟨Q7, 2, none⟩ = some (.string ⟨sq.toArray⟩) ∧ w10.cell? ⟨Q7, 3, none⟩ = some (.bool sb) ∧ w10.cell? ⟨w.heap.size, 10, none⟩ = some (.int .i64 now) from ⟨HX10.out.cell (i := 0) rfl, HX10.out.cell (i := 1) rfl, HX10.out.cell (i := 2) rfl, HX10.out.cell (i := 3) rfl, HK10.out.bx.cell (i := 10) rfl⟩)
      obtain ⟨a0, a1, a2, a3, n0⟩ := HF10.out
      go_cut [11, 12] (fun s11 s12 wx => ∃ R11 : Nat, s11 = .pointer (some ⟨R11, 0, none⟩) ∧ s12 = ev ∧ Below w10.heap.size w10 wx ∧ Bx wx R11 27 #[.string ⟨xh.toArray⟩, .string ⟨xp.toArray⟩, .string ⟨xq.toArray⟩, .bool xb])
      case first =>
       refine wp_region_held_drew (S := fun w' => w'.cell? ⟨Q7, 0, none⟩ = some (.string ⟨sh.toArray⟩) ∧ w'.cell? ⟨Q7, 1, none⟩ = some (.string ⟨sp.toArray⟩) ∧ w'.cell? ⟨Q7, 2, none⟩ = some (.string ⟨sq.toArray⟩) ∧ w'.cell? ⟨Q7, 3, none⟩ = some (.bool sb) ∧ w'.cell? ⟨w.heap.size, 10, none⟩ = some (.int .i64 now)) (by kernel_rfl) (by exact ⟨a0, a1, a2, a3, n0⟩) (fun hHeld => ?_)
       have HB0d := Lib.hid (BelS.mk ((Below.refl w10.heap.size w10).drew))
       obtain ⟨wd, hwd⟩ : ∃ z, w10.drew = z := ⟨_, rfl⟩
       rw [hwd] at hHeld HB0d ⊢
       clear hwd
       clear a0 a1 a2 a3 n0
       have a0 := keepC HB0d.out.bel HF10.out.1; have a1 := keepC HB0d.out.bel HF10.out.2.1; have a2 := keepC HB0d.out.bel HF10.out.2.2.1; have a3 := keepC HB0d.out.bel HF10.out.2.2.2.1; have n0 := keepC HB0d.out.bel HF10.out.2.2.2.2
       refine Hd.tk 0 ?_
       try simp only [Act.put, List.setIfInBounds_toArray, List.set_cons_zero, List.set_cons_succ]
       refine Hd.tk 1 ?_
       try simp only [Act.put, List.setIfInBounds_toArray, List.set_cons_zero, List.set_cons_succ]
       refine Hd.tk 2 ?_
       try simp only [Act.put, List.setIfInBounds_toArray, List.set_cons_zero, List.set_cons_succ]
       refine Hd.tk 4 ?_
       try simp only [Act.put, List.setIfInBounds_toArray, List.set_cons_zero, List.set_cons_succ]
       refine Hd.tk 5 ?_
       try simp only [Act.put, List.setIfInBounds_toArray, List.set_cons_zero, List.set_cons_succ]
       refine wpAnyH_ready (rs := [3, 10]) (by kernel_rfl) (by simp) (AllReadyH.cons (by simp only [List.getElem?_toArray, List.getElem?_cons_succ, List.getElem?_cons_zero]; rfl) (fun K hK => ?_) (AllReadyH.cons (by simp only [List.getElem?_toArray, List.getElem?_cons_succ, List.getElem?_cons_zero]; rfl) (fun K hK => ?_) AllReadyH.nil))
       ·go_simp
        go_at_call 29
        refine (A1.of_any ⟨sh, sp, sq, sb⟩ _).mono ?_
        rintro e v30 ⟨rfl, hb30⟩
        have HV30 := Lib.hid (HB0d.out.older hb30)
        clear a0 a1 a2 a3 n0
        have a0 := keepC HV30.out.bel HF10.out.1; have a1 := keepC HV30.out.bel HF10.out.2.1; have a2 := keepC HV30.out.bel HF10.out.2.2.1; have a3 := keepC HV30.out.bel HF10.out.2.2.2.1; have n0 := keepC HV30.out.bel HF10.out.2.2.2.2
        clear hb30
        go_wp2_with fail
        refine hK.out _ _ (by exact ⟨a0, a1, a2, a3, n0⟩) (fun hHf30 => ?_)
        clear hK K
        try simp only [Act.put, List.setIfInBounds_toArray, List.set_cons_zero, List.set_cons_succ]
        refine wpAnyH_ready (rs := [6, 10]) (by kernel_rfl) (by simp) (AllReadyH.cons (by simp only [List.getElem?_toArray, List.getElem?_cons_succ, List.getElem?_cons_zero]; rfl) (fun K hK => ?_) (AllReadyH.cons (by simp only [List.getElem?_toArray, List.getElem?_cons_succ, List.getElem?_cons_zero]; rfl) (fun K hK => ?_) AllReadyH.nil))
        ·go_simp
         go_at_call 17
         refine (HKV.out _ (HG10.out.below HV30.out.bel) (HK10.out.pl.ring.older HV30.out.bel)).mono ?_
         rintro e v31 ⟨rfl, hb31⟩
         have HV31 := Lib.hid (HV30.out.older hb31)
         clear a0 a1 a2 a3 n0
         have a0 := keepC HV31.out.bel HF10.out.1; have a1 := keepC HV31.out.bel HF10.out.2.1; have a2 := keepC HV31.out.bel HF10.out.2.2.1; have a3 := keepC HV31.out.bel HF10.out.2.2.2.1; have n0 := keepC HV31.out.bel HF10.out.2.2.2.2
         clear hb31
         go_wp2_with fail
         refine hK.out _ _ (by exact ⟨a0, a1, a2, a3, n0⟩) (fun hHf31 => ?_)
         clear hK K
         try simp only [Act.put, List.setIfInBounds_toArray, List.set_cons_zero, List.set_cons_succ]
         refine Hd.tk 7 ?_
         try simp only [Act.put, List.setIfInBounds_toArray, List.set_cons_zero, List.set_cons_succ]
         refine Hd.tk 8 ?_
         try simp only [Act.put, List.setIfInBounds_toArray, List.set_cons_zero, List.set_cons_succ]
         refine Hd.tk 9 ?_
         try simp only [Act.put, List.setIfInBounds_toArray, List.set_cons_zero, List.set_cons_succ]
         refine wpAnyH_ready (rs := [10]) (by kernel_rfl) (by simp) (AllReadyH.cons (by simp only [List.getElem?_toArray, List.getElem?_cons_succ, List.getElem?_cons_zero]; rfl) (fun K hK => ?_) AllReadyH.nil)
         go_simp
         have HV32 := Lib.hid (HV31.out.older ((Below.refl _ _).alloc (Nat.le_refl _) (.cells #[.string ⟨#[]⟩, .string ⟨#[]⟩, .string ⟨#[]⟩, .bool false] 27)))
         have HY32 := Lib.hid (Bx.new v31 27 #[.string ⟨#[]⟩, .string ⟨#[]⟩, .string ⟨#[]⟩, .bool false])
         have hR8 := HV31.out.bel.size
         obtain ⟨v32, hwa32⟩ : ∃ z, (v31).alloc (.cells #[.string ⟨#[]⟩, .string ⟨#[]⟩, .string ⟨#[]⟩, .bool false] 27) = z := ⟨_, rfl⟩
         rw [hwa32] at HV32 HY32 ⊢
         clear hwa32
         clear a0 a1 a2 a3 n0
         have a0 := keepC HV32.out.bel HF10.out.1; have a1 := keepC HV32.out.bel HF10.out.2.1; have a2 := keepC HV32.out.bel HF10.out.2.2.1; have a3 := keepC HV32.out.bel HF10.out.2.2.2.1; have n0 := keepC HV32.out.bel HF10.out.2.2.2.2
         have x0 := HY32.out.cell (i := 0) rfl; have x1 := HY32.out.cell (i := 1) rfl; have x2 := HY32.out.cell (i := 2) rfl; have x3 := HY32.out.cell (i := 3) rfl; have y0 := HY32.out.frz 0; have y1 := HY32.out.frz 1; have y2 := HY32.out.frz 2; have y3 := HY32.out.frz 3; have hx := HY32.out.lt
         refine hK.out _ _ (by exact ⟨a0, a1, a2, a3, n0⟩) (fun hHf32 => ?_)
         clear hK K
         try simp only [Act.put, List.setIfInBounds_toArray, List.set_cons_zero, List.set_cons_succ]
         refine wpAnyH_ready (rs := [11]) (by kernel_rfl) (by simp) (AllReadyH.cons (by simp only [List.getElem?_toArray, List.getElem?_cons_succ, List.getElem?_cons_zero]; rfl) (fun K hK => ?_) AllReadyH.nil)
         go_simp
         have HZ9 := Lib.hid (HV32.out.set4 hR8 (.string ⟨xh.toArray⟩) (.string ⟨xp.toArray⟩) (.string ⟨xq.toArray⟩) (.bool xb))
         have HXZ := Lib.hid (show Bx ((((v32.setCell ⟨v31.heap.size, 0, none⟩ (.string ⟨xh.toArray⟩)).setCell ⟨v31.heap.size, 1, none⟩ (.string ⟨xp.toArray⟩)).setCell ⟨v31.heap.size, 2, none⟩ (.string ⟨xq.toArray⟩)).setCell ⟨v31.heap.size, 3, none⟩ (.bool xb)) v31.heap.size 27 #[.string ⟨xh.toArray⟩, .string ⟨xp.toArray⟩, .string ⟨xq.toArray⟩, .bool xb] from ((((HY32.out.set 0 (.string ⟨xh.toArray⟩)).set 1 (.string ⟨xp.toArray⟩)).set 2 (.string ⟨xq.toArray⟩)).set 3 (.bool xb)))
         obtain ⟨z9, hz9⟩ : ∃ z, ((((v32.setCell ⟨v31.heap.size, 0, none⟩ (.string ⟨xh.toArray⟩)).setCell ⟨v31.heap.size, 1, none⟩ (.string ⟨xp.toArray⟩)).setCell ⟨v31.heap.size, 2, none⟩ (.string ⟨xq.toArray⟩)).setCell ⟨v31.heap.size, 3, none⟩ (.bool xb)) = z := ⟨_, rfl⟩
         rw [hz9] at HZ9 HXZ ⊢
         clear hz9
         clear a0 a1 a2 a3 n0
         clear x0 x1 x2 x3 y0 y1 y2 y3 hx
         have a0 := keepC HZ9.out.bel HF10.out.1; have a1 := keepC HZ9.out.bel HF10.out.2.1; have a2 := keepC HZ9.out.bel HF10.out.2.2.1; have a3 := keepC HZ9.out.bel HF10.out.2.2.2.1; have n0 := keepC HZ9.out.bel HF10.out.2.2.2.2
         refine hK.out _ _ (by exact ⟨a0, a1, a2, a3, n0⟩) (fun hHf9 => ?_)
         clear hK K
         try simp only [Act.put, List.setIfInBounds_toArray, List.set_cons_zero, List.set_cons_succ]
         refine Hd.tk 12 ?_
         try simp only [Act.put, List.setIfInBounds_toArray, List.set_cons_zero, List.set_cons_succ]
         refine wpAnyH_done (by kernel_rfl) ?_ _
         go_wp2_with fail
         go_meet
         exact ⟨_, rfl, rfl, HZ9.out.bel, HXZ.out⟩
        ·go_simp
         have HV31 := Lib.hid (HV30.out.older ((Below.refl _ _).alloc (Nat.le_refl _) (.cells #[.string ⟨#[]⟩, .string ⟨#[]⟩, .string ⟨#[]⟩, .bool false] 27)))
         have HY31 := Lib.hid (Bx.new v30 27 #[.string ⟨#[]⟩, .string ⟨#[]⟩, .string ⟨#[]⟩, .bool false])
         have hR8 := HV30.out.bel.size
         obtain ⟨v31, hwa31⟩ : ∃ z, (v30).alloc (.cells #[.string ⟨#[]⟩, .string ⟨#[]⟩, .string ⟨#[]⟩, .bool false] 27) = z := ⟨_, rfl⟩
         rw [hwa31] at HV31 HY31 ⊢
         clear hwa31
         clear a0 a1 a2 a3 n0
         have a0 := keepC HV31.out.bel HF10.out.1; have a1 := keepC HV31.out.bel HF10.out.2.1; have a2 := keepC HV31.out.bel HF10.out.2.2.1; have a3 := keepC HV31.out.bel HF10.out.2.2.2.1; have n0 := keepC HV31.out.bel HF10.out.2.2.2.2
         have x0 := HY31.out.cell (i := 0) rfl; have x1 := HY31.out.cell (i := 1) rfl; have x2 := HY31.out.cell (i := 2) rfl; have x3 := HY31.out.cell (i := 3) rfl; have y0 := HY31.out.frz 0; have y1 := HY31.out.frz 1; have y2 := HY31.out.frz 2; have y3 := HY31.out.frz 3; have hx := HY31.out.lt
         refine hK.out _ _ (by exact ⟨a0, a1, a2, a3, n0⟩) (fun hHf31 => ?_)
         clear hK K
         try simp only [Act.put, List.setIfInBounds_toArray, List.set_cons_zero, List.set_cons_succ]
         refine wpAnyH_ready (rs := [6]) (by kernel_rfl) (by simp) (AllReadyH.cons (by simp only [List.getElem?_toArray, List.getElem?_cons_succ, List.getElem?_cons_zero]; rfl) (fun K hK => ?_) AllReadyH.nil)
         go_simp
         go_at_call 17
         refine (HKV.out _ (HG10.out.below HV31.out.bel) (HK10.out.pl.ring.older HV31.out.bel)).mono ?_
         rintro e v32 ⟨rfl, hb32⟩
         have HV32 := Lib.hid (HV31.out.older hb32)
         have HY32 := Lib.hid (HY31.out.older hb32)
         clear x0 x1 x2 x3 y0 y1 y2 y3 hx
         have x0 := HY32.out.cell (i := 0) rfl; have x1 := HY32.out.cell (i := 1) rfl; have x2 := HY32.out.cell (i := 2) rfl; have x3 := HY32.out.cell (i := 3) rfl; have y0 := HY32.out.frz 0; have y1 := HY32.out.frz 1; have y2 := HY32.out.frz 2; have y3 := HY32.out.frz 3; have hx := HY32.out.lt
         clear a0 a1 a2 a3 n0
         have a0 := keepC HV32.out.bel HF10.out.1; have a1 := keepC HV32.out.bel HF10.out.2.1; have a2 := keepC HV32.out.bel HF10.out.2.2.1; have a3 := keepC HV32.out.bel HF10.out.2.2.2.1; have n0 := keepC HV32.out.bel HF10.out.2.2.2.2
         clear hb32
         go_wp2_with fail
         refine hK.out _ _ (by exact ⟨a0, a1, a2, a3, n0⟩) (fun hHf32 => ?_)
         clear hK K
         try simp only [Act.put, List.setIfInBounds_toArray, List.set_cons_zero, List.set_cons_succ]
         refine Hd.tk 7 ?_
         try simp only [Act.put, List.setIfInBounds_toArray, List.set_cons_zero, List.set_cons_succ]
         refine Hd.tk 8 ?_
         try simp only [Act.put, List.setIfInBounds_toArray, List.set_cons_zero, List.set_cons_succ]
         refine Hd.tk 9 ?_
         try simp only [Act.put, List.setIfInBounds_toArray, List.set_cons_zero, List.set_cons_succ]
         refine wpAnyH_ready (rs := [11]) (by kernel_rfl) (by simp) (AllReadyH.cons (by simp only [List.getElem?_toArray, List.getElem?_cons_succ, List.getElem?_cons_zero]; rfl) (fun K hK => ?_) AllReadyH.nil)
         go_simp
         have HZ9 := Lib.hid (HV32.out.set4 hR8 (.string ⟨xh.toArray⟩) (.string ⟨xp.toArray⟩) (.string ⟨xq.toArray⟩) (.bool xb))
         have HXZ := Lib.hid (show Bx ((((v32.setCell ⟨v30.heap.size, 0, none⟩ (.string ⟨xh.toArray⟩)).setCell ⟨v30.heap.size, 1, none⟩ (.string ⟨xp.toArray⟩)).setCell ⟨v30.heap.size, 2, none⟩ (.string ⟨xq.toArray⟩)).setCell ⟨v30.heap.size, 3, none⟩ (.bool xb)) v30.heap.size 27 #[.string ⟨xh.toArray⟩, .string ⟨xp.toArray⟩, .string ⟨xq.toArray⟩, .bool xb] from ((((HY32.out.set 0 (.string ⟨xh.toArray⟩)).set 1 (.string ⟨xp.toArray⟩)).set 2 (.string ⟨xq.toArray⟩)).set 3 (.bool xb)))
         obtain ⟨z9, hz9⟩ : ∃ z, ((((v32.setCell ⟨v30.heap.size, 0, none⟩ (.string ⟨xh.toArray⟩)).setCell ⟨v30.heap.size, 1, none⟩ (.string ⟨xp.toArray⟩)).setCell ⟨v30.heap.size, 2, none⟩ (.string ⟨xq.toArray⟩)).setCell ⟨v30.heap.size, 3, none⟩ (.bool xb)) = z := ⟨_, rfl⟩
         rw [hz9] at HZ9 HXZ ⊢
         clear hz9
         clear a0 a1 a2 a3 n0
         clear x0 x1 x2 x3 y0 y1 y2 y3 hx
         have a0 := keepC HZ9.out.bel HF10.out.1; have a1 := keepC HZ9.out.bel HF10.out.2.1; have a2 := keepC HZ9.out.bel HF10.out.2.2.1; have a3 := keepC HZ9.out.bel HF10.out.2.2.2.1; have n0 := keepC HZ9.out.bel HF10.out.2.2.2.2
         refine hK.out _ _ (by exact ⟨a0, a1, a2, a3, n0⟩) (fun hHf9 => ?_)
         clear hK K
         try simp only [Act.put, List.setIfInBounds_toArray, List.set_cons_zero, List.set_cons_succ]
         refine Hd.tk 12 ?_
         try simp only [Act.put, List.setIfInBounds_toArray, List.set_cons_zero, List.set_cons_succ]
         refine wpAnyH_done (by kernel_rfl) ?_ _
         go_wp2_with fail
         go_meet
         exact ⟨_, rfl, rfl, HZ9.out.bel, HXZ.out⟩
       ·go_simp
        have HV30 := Lib.hid (HB0d.out.older ((Below.refl _ _).alloc (Nat.le_refl _) (.cells #[.string ⟨#[]⟩, .string ⟨#[]⟩, .string ⟨#[]⟩, .bool false] 27)))
        have HY30 := Lib.hid (Bx.new wd 27 #[.string ⟨#[]⟩, .string ⟨#[]⟩, .string ⟨#[]⟩, .bool false])
        have hR8 := HB0d.out.bel.size
        obtain ⟨v30, hwa30⟩ : ∃ z, (wd).alloc (.cells #[.string ⟨#[]⟩, .string ⟨#[]⟩, .string ⟨#[]⟩, .bool false] 27) = z := ⟨_, rfl⟩
        rw [hwa30] at HV30 HY30 ⊢
        clear hwa30
        clear a0 a1 a2 a3 n0
        have a0 := keepC HV30.out.bel HF10.out.1; have a1 := keepC HV30.out.bel HF10.out.2.1; have a2 := keepC HV30.out.bel HF10.out.2.2.1; have a3 := keepC HV30.out.bel HF10.out.2.2.2.1; have n0 := keepC HV30.out.bel HF10.out.2.2.2.2
        have x0 := HY30.out.cell (i := 0) rfl; have x1 := HY30.out.cell (i := 1) rfl; have x2 := HY30.out.cell (i := 2) rfl; have x3 := HY30.out.cell (i := 3) rfl; have y0 := HY30.out.frz 0; have y1 := HY30.out.frz 1; have y2 := HY30.out.frz 2; have y3 := HY30.out.frz 3; have hx := HY30.out.lt
        refine hK.out _ _ (by exact ⟨a0, a1, a2, a3, n0⟩) (fun hHf30 => ?_)
        clear hK K
        try simp only [Act.put, List.setIfInBounds_toArray, List.set_cons_zero, List.set_cons_succ]
        refine wpAnyH_ready (rs := [3]) (by kernel_rfl) (by simp) (AllReadyH.cons (by simp only [List.getElem?_toArray, List.getElem?_cons_succ, List.getElem?_cons_zero]; rfl) (fun K hK => ?_) AllReadyH.nil)
        go_simp
        go_at_call 29
        refine (A1.of_any ⟨sh, sp, sq, sb⟩ _).mono ?_
        rintro e v31 ⟨rfl, hb31⟩
        have HV31 := Lib.hid (HV30.out.older hb31)
        have HY31 := Lib.hid (HY30.out.older hb31)
        clear x0 x1 x2 x3 y0 y1 y2 y3 hx
        have x0 := HY31.out.cell (i := 0) rfl; have x1 := HY31.out.cell (i := 1) rfl; have x2 := HY31.out.cell (i := 2) rfl; have x3 := HY31.out.cell (i := 3) rfl; have y0 := HY31.out.frz 0; have y1 := HY31.out.frz 1; have y2 := HY31.out.frz 2; have y3 := HY31.out.frz 3; have hx := HY31.out.lt
        clear a0 a1 a2 a3 n0
        have a0 := keepC HV31.out.bel HF10.out.1; have a1 := keepC HV31.out.bel HF10.out.2.1; have a2 := keepC HV31.out.bel HF10.out.2.2.1; have a3 := keepC HV31.out.bel HF10.out.2.2.2.1; have n0 := keepC HV31.out.bel HF10.out.2.2.2.2
        clear hb31
        go_wp2_with fail
        refine hK.out _ _ (by exact ⟨a0, a1, a2, a3, n0⟩) (fun hHf31 => ?_)
        clear hK K
        try simp only [Act.put, List.setIfInBounds_toArray, List.set_cons_zero, List.set_cons_succ]
        refine wpAnyH_ready (rs := [6]) (by kernel_rfl) (by simp) (AllReadyH.cons (by simp only [List.getElem?_toArray, List.getElem?_cons_succ, List.getElem?_cons_zero]; rfl) (fun K hK => ?_) AllReadyH.nil)
        go_simp
        go_at_call 17
        refine (HKV.out _ (HG10.out.below HV31.out.bel) (HK10.out.pl.ring.older HV31.out.bel)).mono ?_
        rintro e v32 ⟨rfl, hb32⟩
        have HV32 := Lib.hid (HV31.out.older hb32)
        have HY32 := Lib.hid (HY31.out.older hb32)
        clear x0 x1 x2 x3 y0 y1 y2 y3 hx
        have x0 := HY32.out.cell (i := 0) rfl; have x1 := HY32.out.cell (i := 1) rfl; have x2 := HY32.out.cell (i := 2) rfl; have x3 := HY32.out.cell (i := 3) rfl; have y0 := HY32.out.frz 0; have y1 := HY32.out.frz 1; have y2 := HY32.out.frz 2; have y3 := HY32.out.frz 3; have hx := HY32.out.lt
        clear a0 a1 a2 a3 n0
        have a0 := keepC HV32.out.bel HF10.out.1; have a1 := keepC HV32.out.bel HF10.out.2.1; have a2 := keepC HV32.out.bel HF10.out.2.2.1; have a3 := keepC HV32.out.bel HF10.out.2.2.2.1; have n0 := keepC HV32.out.bel HF10.out.2.2.2.2
        clear hb32
        go_wp2_with fail
        refine hK.out _ _ (by exact ⟨a0, a1, a2, a3, n0⟩) (fun hHf32 => ?_)
        clear hK K
        try simp only [Act.put, List.setIfInBounds_toArray, List.set_cons_zero, List.set_cons_succ]
        refine Hd.tk 7 ?_
        try simp only [Act.put, List.setIfInBounds_toArray, List.set_cons_zero, List.set_cons_succ]
        refine Hd.tk 8 ?_
        try simp only [Act.put, List.setIfInBounds_toArray, List.set_cons_zero, List.set_cons_succ]
        refine Hd.tk 9 ?_
        try simp only [Act.put, List.setIfInBounds_toArray, List.set_cons_zero, List.set_cons_succ]
        refine wpAnyH_ready (rs := [11]) (by kernel_rfl) (by simp) (AllReadyH.cons (by simp only [List.getElem?_toArray, List.getElem?_cons_succ, List.getElem?_cons_zero]; rfl) (fun K hK => ?_) AllReadyH.nil)
        go_simp
        have HZ9 := Lib.hid (HV32.out.set4 hR8 (.string ⟨xh.toArray⟩) (.string ⟨xp.toArray⟩) (.string ⟨xq.toArray⟩) (.bool xb))
        have HXZ := Lib.hid (show Bx ((((v32.setCell ⟨wd.heap.size, 0, none⟩ (.string ⟨xh.toArray⟩)).setCell ⟨wd.heap.size, 1, none⟩ (.string ⟨xp.toArray⟩)).setCell ⟨wd.heap.size, 2, none⟩ (.string ⟨xq.toArray⟩)).setCell ⟨wd.heap.size, 3, none⟩ (.bool xb)) wd.heap.size 27 #[.string ⟨xh.toArray⟩, .string ⟨xp.toArray⟩, .string ⟨xq.toArray⟩, .bool xb] from ((((HY32.out.set 0 (.string ⟨xh.toArray⟩)).set 1 (.string ⟨xp.toArray⟩)).set 2 (.string ⟨xq.toArray⟩)).set 3 (.bool xb)))
        obtain ⟨z9, hz9⟩ : ∃ z, ((((v32.setCell ⟨wd.heap.size, 0, none⟩ (.string ⟨xh.toArray⟩)).setCell ⟨wd.heap.size, 1, none⟩ (.string ⟨xp.toArray⟩)).setCell ⟨wd.heap.size, 2, none⟩ (.string ⟨xq.toArray⟩)).setCell ⟨wd.heap.size, 3, none⟩ (.bool xb)) = z := ⟨_, rfl⟩
        rw [hz9] at HZ9 HXZ ⊢
        clear hz9
        clear a0 a1 a2 a3 n0
        clear x0 x1 x2 x3 y0 y1 y2 y3 hx
        have a0 := keepC HZ9.out.bel HF10.out.1; have a1 := keepC HZ9.out.bel HF10.out.2.1; have a2 := keepC HZ9.out.bel HF10.out.2.2.1; have a3 := keepC HZ9.out.bel HF10.out.2.2.2.1; have n0 := keepC HZ9.out.bel HF10.out.2.2.2.2
        refine hK.out _ _ (by exact ⟨a0, a1, a2, a3, n0⟩) (fun hHf9 => ?_)
        clear hK K
        try simp only [Act.put, List.setIfInBounds_toArray, List.set_cons_zero, List.set_cons_succ]
        refine Hd.tk 12 ?_
        try simp only [Act.put, List.setIfInBounds_toArray, List.set_cons_zero, List.set_cons_succ]
        refine wpAnyH_done (by kernel_rfl) ?_ _
        go_wp2_with fail
        go_meet
        exact ⟨_, rfl, rfl, HZ9.out.bel, HXZ.out⟩
      case rest =>
       obtain ⟨R11, rfl, rfl, hb11, hx11⟩ := hcut
       have HBw := Lib.hid (BelS.mk hb11)
       have HX11 := Lib.hid hx11
       clear hb11 hx11
       have a0 := keepC HBw.out.bel HF10.out.1; have a1 := keepC HBw.out.bel HF10.out.2.1; have a2 := keepC HBw.out.bel HF10.out.2.2.1; have a3 := keepC HBw.out.bel HF10.out.2.2.2.1; have n0 := keepC HBw.out.bel HF10.out.2.2.2.2
       go_wp2_with fail
       refine (HRV.out _ (HK10.out.pl.ref.older HBw.out.bel)).mono ?_
       rintro e w12 ⟨rfl, hb12⟩
       have HB12 := Lib.hid (HBX.out.trans ((HB10.out.trans ((HBw.out.older hb12).bel.mono HB10.out.size)).mono HBX.out.size))
       have HX12 := Lib.hid (HX11.out.older hb12)
       clear hb12
       clear a0 a1 a2 a3 n0
       have HB6 := Lib.hid (HB12.out.alloc HB12.out.size (.cells #[.string ⟨xh.toArray⟩, .string ⟨xp.toArray⟩, .string ⟨xq.toArray⟩, .bool xb] 63))
       have HX6 := Lib.hid (HX12.out.older ((Below.refl _ _).alloc (Nat.le_refl _) (.cells #[.string ⟨xh.toArray⟩, .string ⟨xp.toArray⟩, .string ⟨xq.toArray⟩, .bool xb] 63)))
       have HY6 := Lib.hid (Bx.new w12 63 #[.string ⟨xh.toArray⟩, .string ⟨xp.toArray⟩, .string ⟨xq.toArray⟩, .bool xb])
       go_wp2_with fail
       obtain ⟨w6, hw6⟩ : ∃ z, w12.alloc (.cells #[.string ⟨xh.toArray⟩, .string ⟨xp.toArray⟩, .string ⟨xq.toArray⟩, .bool xb] 63) = z := ⟨_, rfl⟩
       rw [hw6] at HB6 HX6 HY6 ⊢
       clear hw6
       obtain ⟨R9, hR9⟩ : ∃ z, w12.heap.size = z := ⟨_, rfl⟩
       rw [hR9] at HY6 ⊢
       clear hR9
       have HAB := adB_refl xh xp xq xb
       have HBd := Lib.hid (HB6.out.trans ((Below.refl w6.heap.size w6).drew.mono HB6.out.size))
       have HXd := Lib.hid (HX6.out.older ((Below.refl _ _).drew))
       have HYd := Lib.hid (HY6.out.older ((Below.refl _ _).drew))
       have a0 := HX6.out.cell (i := 0) rfl; have a1 := HX6.out.cell (i := 1) rfl; have a2 := HX6.out.cell (i := 2) rfl; have a3 := HX6.out.cell (i := 3) rfl; have b0 := HY6.out.cell (i := 0) rfl; have b1 := HY6.out.cell (i := 1) rfl; have b2 := HY6.out.cell (i := 2) rfl; have b3 := HY6.out.cell (i := 3) rfl; have hza := HX6.out.lt; have hzb := HY6.out.lt
       refine wp_region_held_drew (S := fun w' => w'.cell? ⟨R11, 0, none⟩ = some (.string ⟨xh.toArray⟩) ∧ w'.cell? ⟨R11, 1, none⟩ = some (.string ⟨xp.toArray⟩) ∧ w'.cell? ⟨R11, 2, none⟩ = some (.string ⟨xq.toArray⟩) ∧ w'.cell? ⟨R11, 3, none⟩ = some (.bool xb) ∧ w'.cell? ⟨R9, 0, none⟩ = some (.string ⟨xh.toArray⟩) ∧ w'.cell? ⟨R9, 1, none⟩ = some (.string ⟨xp.toArray⟩) ∧ w'.cell? ⟨R9, 2, none⟩ = some (.string ⟨xq.toArray⟩) ∧ w'.cell? ⟨R9, 3, none⟩ = some (.bool xb)) (by kernel_rfl) (by exact ⟨a0, a1, a2, a3, b0, b1, b2, b3⟩) (fun hHeld => ?_)
       obtain ⟨wd, hwd⟩ : ∃ z, w6.drew = z := ⟨_, rfl⟩
       rw [hwd] at hHeld HBd HXd HYd ⊢
       clear hwd
       clear a0 a1 a2 a3 b0 b1 b2 b3 hza hzb
       have a0 := HXd.out.cell (i := 0) rfl; have a1 := HXd.out.cell (i := 1) rfl; have a2 := HXd.out.cell (i := 2) rfl; have a3 := HXd.out.cell (i := 3) rfl; have b0 := HYd.out.cell (i := 0) rfl; have b1 := HYd.out.cell (i := 1) rfl; have b2 := HYd.out.cell (i := 2) rfl; have b3 := HYd.out.cell (i := 3) rfl; have hza := HXd.out.lt; have hzb := HYd.out.lt
       refine Hd.tk 0 ?_
       try simp only [Act.put, List.setIfInBounds_toArray, List.set_cons_zero, List.set_cons_succ]
       refine Hd.tk 2 ?_
       try simp only [Act.put, List.setIfInBounds_toArray, List.set_cons_zero, List.set_cons_succ]
       refine wpAnyH_ready (rs := [1]) (by kernel_rfl) (by simp) (AllReadyH.cons (by simp only [List.getElem?_toArray, List.getElem?_cons_succ, List.getElem?_cons_zero]; rfl) (fun K hK => ?_) AllReadyH.nil)
       go_simp
       go_at_call 31
       refine (HNUM.out _).mono ?_
       rintro e u1 ⟨rfl, rfl⟩
       go_wp2_with fail
       refine hK.out _ _ (by exact ⟨a0, a1, a2, a3, b0, b1, b2, b3⟩) (fun hHg => ?_)
       clear hK K
       try simp only [Act.put, List.setIfInBounds_toArray, List.set_cons_zero, List.set_cons_succ]
       refine Hd.tk 3 ?_
       try simp only [Act.put, List.setIfInBounds_toArray, List.set_cons_zero, List.set_cons_succ]
       refine Hd.tk 4 ?_
       try simp only [Act.put, List.setIfInBounds_toArray, List.set_cons_zero, List.set_cons_succ]
       refine Hd.tk 5 ?_
       try simp only [Act.put, List.setIfInBounds_toArray, List.set_cons_zero, List.set_cons_succ]
       refine Hd.tk 7 ?_
       try simp only [Act.put, List.setIfInBounds_toArray, List.set_cons_zero, List.set_cons_succ]
       refine wpAnyH_ready (rs := [6]) (by kernel_rfl) (by simp) (AllReadyH.cons (by simp only [List.getElem?_toArray, List.getElem?_cons_succ, List.getElem?_cons_zero]; rfl) (fun K hK => ?_) AllReadyH.nil)
       go_simp
       go_at_call 32
       refine (A1.ref_any ⟨xh, xp, xq, xb⟩ _).mono ?_
       rintro e u2 ⟨rfl, hu2⟩
       have HBe := Lib.hid (HBd.out.trans (hu2.mono HBd.out.size))
       have HXe := Lib.hid (HXd.out.older hu2)
       have HYe := Lib.hid (HYd.out.older hu2)
       clear a0 a1 a2 a3 b0 b1 b2 b3 hza hzb
       have a0 := HXe.out.cell (i := 0) rfl; have a1 := HXe.out.cell (i := 1) rfl; have a2 := HXe.out.cell (i := 2) rfl; have a3 := HXe.out.cell (i := 3) rfl; have b0 := HYe.out.cell (i := 0) rfl; have b1 := HYe.out.cell (i := 1) rfl; have b2 := HYe.out.cell (i := 2) rfl; have b3 := HYe.out.cell (i := 3) rfl; have hza := HXe.out.lt; have hzb := HYe.out.lt
       clear hu2
       go_wp2_with fail
       refine hK.out _ _ (by exact ⟨a0, a1, a2, a3, b0, b1, b2, b3⟩) (fun hHh => ?_)
       clear hK K
       try simp only [Act.put, List.setIfInBounds_toArray, List.set_cons_zero, List.set_cons_succ]
       refine Hd.tk 8 ?_
       try simp only [Act.put, List.setIfInBounds_toArray, List.set_cons_zero, List.set_cons_succ]
       refine Hd.tk 9 ?_
       try simp only [Act.put, List.setIfInBounds_toArray, List.set_cons_zero, List.set_cons_succ]
       refine Hd.tk 10 ?_
       try simp only [Act.put, List.setIfInBounds_toArray, List.set_cons_zero, List.set_cons_succ]
       refine wpAnyH_done (by kernel_rfl) ?_ _
       go_wp2_with fail
       go_ret
       exact ⟨rfl, HBe.out⟩
     ·have hcb : (cn == 0) = false := beq_eq_false_iff_ne.2 hc
      have l1 : h.length ≤ 2000 := by omega
      have l2 : p.length ≤ 2000 := by omega
      have l3 : q.length ≤ 2000 := by omega
      clear HSL HRSG
      go_upto_region 17 with fail
      have HB10 := Lib.hid HBc.out
      have HX10 := Lib.hid HX7c.out
      obtain ⟨w10, hw10⟩ : ∃ z, wc = z := ⟨_, rfl⟩
      rw [hw10] at HB10 HX10 ⊢
      clear hw10
      have HK10 := Lib.hid (HK.out.older HB10.out)
      have HG10 := Lib.hid (HGR.out.below HB10.out)
      have HBX := Lib.hid HBR.out
      obtain ⟨m, hm⟩ : ∃ m, tn % 3 = m := ⟨_, rfl⟩
      have hm3 : m < 3 := by omega
      have hmi : (tn : Int) % 3 = (m : Int) := by omega
      have hmt : Int.tmod (tn : Int) 3 = (m : Int) := by rw [Int.tmod_eq_emod_of_nonneg (by omega)]; exact hmi
      have hlm := pls_len HK.out.pl (m : Int)
      have HKV0 := fun wz hz hr => kverify_any w1.heap.size R (m : Int) ⟨h, p, q, b⟩ now V E wz hz hr (by omega) (pls_sec HK.out.pl (m : Int)) (by simp only; omega) (by simp only; omega) (by simp only; omega)
      have hf : (fun id => (findE (tlK E (m : Int)) id).map Ent.key) = keyF ml (m : Int) := funext fun id => pls_find HK.out.pl (m : Int) id
      rw [hf] at HKV0
      have HRV0 := fun wz hr => krverify_any w1.heap.size (.slice la ml.length lc) ml (m : Int) ⟨h, p, q, b⟩ now wz hr (by omega) HK.out.pl.sec (by simp only; omega) (by simp only; omega) (by simp only; omega)
      obtain ⟨rc, hrc⟩ : ∃ z, ringC (keyF ml (m : Int)) ⟨h, p, q, b⟩ now = z := ⟨_, rfl⟩
      rw [hrc] at HKV0 HRV0
      have HNUM0 := fun wz => Sg.num_any rc wz
      obtain ⟨ev, hev⟩ : ∃ z, Sg.errC rc = z := ⟨_, rfl⟩
      rw [hev] at HKV0 HNUM0
      generalize ringA (keyF ml (m : Int)) ⟨h, p, q, b⟩ now = xd at HKV0 HRV0
      obtain ⟨xh, xp, xq, xb⟩ := xd
      have HKV := Lib.hid HKV0
      have HRV := Lib.hid HRV0
      have HNUM := Lib.hid HNUM0
      clear HKV0 HRV0 HNUM0 hf hrc hev hlm hm l1 l2 l3
      have j0 := HK10.out.bx.cell (i := 0) rfl; have j1 := HK10.out.bx.cell (i := 1) rfl; have j2 := HK10.out.bx.cell (i := 2) rfl; have j3 := HK10.out.bx.cell (i := 3) rfl; have j4 := HK10.out.bx.cell (i := 4) rfl; have j5 := HK10.out.bx.cell (i := 5) rfl; have j6 := HK10.out.bx.cell (i := 6) rfl; have j7 := HK10.out.bx.cell (i := 7) rfl; have j8 := HK10.out.bx.cell (i := 8) rfl; have j9 := HK10.out.bx.cell (i := 9) rfl; have j10 := HK10.out.bx.cell (i := 10) rfl
      have hjz := HK10.out.bx.lt
      go_upto_region 18 with fail
      clear j0 j1 j2 j3 j4 j5 j6 j7 j8 j9 j10 hjz
      have HF10 := Lib.hid (show w10.cell? ⟨Q7, 0, none⟩ = some (.string ⟨h.toArray⟩) ∧ w10.cell? ⟨Q7, 1, none⟩ = some (.string ⟨p.toArray⟩) ∧ w10.cell? ⟨Q7, 2, none⟩ = some (.string ⟨q.toArray⟩) ∧ w10.cell? ⟨Q7, 3, none⟩ = some (.bool b) ∧ w10.cell? ⟨w.heap.size, 10, none⟩ = some (.int .i64 now) from ⟨HX10.out.cell (i := 0) rfl, HX10.out.cell (i := 1) rfl, HX10.out.cell (i := 2) rfl, HX10.out.cell (i := 3) rfl, HK10.out.bx.cell (i := 10) rfl⟩)
      obtain ⟨a0, a1, a2, a3, n0⟩ := HF10.out
      go_cut [11, 12] (fun s11 s12 wx => ∃ R11 : Nat, s11 = .pointer (some ⟨R11, 0, none⟩) ∧ s12 = ev ∧ Below w10.heap.size w10 wx ∧ Bx wx R11 27 #[.string ⟨xh.toArray⟩, .string ⟨xp.toArray⟩, .string ⟨xq.toArray⟩, .bool xb])
      case first =>
       refine wp_region_held_drew (S := fun w' => w'.cell? ⟨Q7, 0, none⟩ = some (.string ⟨h.toArray⟩) ∧ w'.cell? ⟨Q7, 1, none⟩ = some (.string ⟨p.toArray⟩) ∧ w'.cell? ⟨Q7, 2, none⟩ = some (.string ⟨q.toArray⟩) ∧ w'.cell? ⟨Q7, 3, none⟩ = some (.bool b) ∧ w'.cell? ⟨w.heap.size, 10, none⟩ = some (.int .i64 now)) (by kernel_rfl) (by exact ⟨a0, a1, a2, a3, n0⟩) (fun hHeld => ?_)
       have HB0d := Lib.hid (BelS.mk ((Below.refl w10.heap.size w10).drew))
       obtain ⟨wd, hwd⟩ : ∃ z, w10.drew = z := ⟨_, rfl⟩
       rw [hwd] at hHeld HB0d ⊢
       clear hwd
       clear a0 a1 a2 a3 n0
       have a0 := keepC HB0d.out.bel HF10.out.1; have a1 := keepC HB0d.out.bel HF10.out.2.1; have a2 := keepC HB0d.out.bel HF10.out.2.2.1; have a3 := keepC HB0d.out.bel HF10.out.2.2.2.1; have n0 := keepC HB0d.out.bel HF10.out.2.2.2.2
       refine Hd.tk 0 ?_
       try simp only [Act.put, List.setIfInBounds_toArray, List.set_cons_zero, List.set_cons_succ]
       refine Hd.tk 1 ?_
       try simp only [Act.put, List.setIfInBounds_toArray, List.set_cons_zero, List.set_cons_succ]
       refine Hd.tk 2 ?_
       try simp only [Act.put, List.setIfInBounds_toArray, List.set_cons_zero, List.set_cons_succ]
       refine Hd.tk 4 ?_
       try simp only [Act.put, List.setIfInBounds_toArray, List.set_cons_zero, List.set_cons_succ]
       refine Hd.tk 5 ?_
       try simp only [Act.put, List.setIfInBounds_toArray, List.set_cons_zero, List.set_cons_succ]
       refine wpAnyH_ready (rs := [3, 10]) (by kernel_rfl) (by simp) (AllReadyH.cons (by simp only [List.getElem?_toArray, List.getElem?_cons_succ, List.getElem?_cons_zero]; rfl) (fun K hK => ?_) (AllReadyH.cons (by simp only [List.getElem?_toArray, List.getElem?_cons_succ, List.getElem?_cons_zero]; rfl) (fun K hK => ?_) AllReadyH.nil))
       ·go_simp
        go_at_call 29
        refine (A1.of_any ⟨h, p, q, b⟩ _).mono ?_
        rintro e v30 ⟨rfl, hb30⟩
        have HV30 := Lib.hid (HB0d.out.older hb30)
        clear a0 a1 a2 a3 n0
        have a0 := keepC HV30.out.bel HF10.out.1; have a1 := keepC HV30.out.bel HF10.out.2.1; have a2 := keepC HV30.out.bel HF10.out.2.2.1; have a3 := keepC HV30.out.bel HF10.out.2.2.2.1; have n0 := keepC HV30.out.bel HF10.out.2.2.2.2
        clear hb30
        go_wp2_with fail
        refine hK.out _ _ (by exact ⟨a0, a1, a2, a3, n0⟩) (fun hHf30 => ?_)
        clear hK K
        try simp only [Act.put, List.setIfInBounds_toArray, List.set_cons_zero, List.set_cons_succ]
        refine wpAnyH_ready (rs := [6, 10]) (by kernel_rfl) (by simp) (AllReadyH.cons (by simp only [List.getElem?_toArray, List.getElem?_cons_succ, List.getElem?_cons_zero]; rfl) (fun K hK => ?_) (AllReadyH.cons (by simp only [List.getElem?_toArray, List.getElem?_cons_succ, List.getElem?_cons_zero]; rfl) (fun K hK => ?_) AllReadyH.nil))
        ·go_simp
         go_at_call 17
         refine (HKV.out _ (HG10.out.below HV30.out.bel) (HK10.out.pl.ring.older HV30.out.bel)).mono ?_
         rintro e v31 ⟨rfl, hb31⟩
         have HV31 := Lib.hid (HV30.out.older hb31)
         clear a0 a1 a2 a3 n0
         have a0 := keepC HV31.out.bel HF10.out.1; have a1 := keepC HV31.out.bel HF10.out.2.1; have a2 := keepC HV31.out.bel HF10.out.2.2.1; have a3 := keepC HV31.out.bel HF10.out.2.2.2.1; have n0 := keepC HV31.out.bel HF10.out.2.2.2.2
         clear hb31
         go_wp2_with fail
         refine hK.out _ _ (by exact ⟨a0, a1, a2, a3, n0⟩) (fun hHf31 => ?_)
         clear hK K
         try simp only [Act.put, List.setIfInBounds_toArray, List.set_cons_zero, List.set_cons_succ]
         refine Hd.tk 7 ?_
         try simp only [Act.put, List.setIfInBounds_toArray, List.set_cons_zero, List.set_cons_succ]
         refine Hd.tk 8 ?_
         try simp only [Act.put, List.setIfInBounds_toArray, List.set_cons_zero, List.set_cons_succ]
         refine Hd.tk 9 ?_
         try simp only [Act.put, List.setIfInBounds_toArray, List.set_cons_zero, List.set_cons_succ]
         refine wpAnyH_ready (rs := [10]) (by kernel_rfl) (by simp) (AllReadyH.cons (by simp only [List.getElem?_toArray, List.getElem?_cons_succ, List.getElem?_cons_zero]; rfl) (fun K hK => ?_) AllReadyH.nil)
         go_simp
         have HV32 := Lib.hid (HV31.out.older ((Below.refl _ _).alloc (Nat.le_refl _) (.cells #[.string ⟨#[]⟩, .string ⟨#[]⟩, .string ⟨#[]⟩, .bool false] 27)))
         have HY32 := Lib.hid (Bx.new v31 27 #[.string ⟨#[]⟩, .string ⟨#[]⟩, .string ⟨#[]⟩, .bool false])
         have hR8 := HV31.out.bel.size
         obtain ⟨v32, hwa32⟩ : ∃ z, (v31).alloc (.cells #[.string ⟨#[]⟩, .string ⟨#[]⟩, .string ⟨#[]⟩, .bool false] 27) = z := ⟨_, rfl⟩
         rw [hwa32] at HV32 HY32 ⊢
         clear hwa32
         clear a0 a1 a2 a3 n0
         have a0 := keepC HV32.out.bel HF10.out.1; have a1 := keepC HV32.out.bel HF10.out.2.1; have a2 := keepC HV32.out.bel HF10.out.2.2.1; have a3 := keepC HV32.out.bel HF10.out.2.2.2.1; have n0 := keepC HV32.out.bel HF10.out.2.2.2.2
         have x0 := HY32.out.cell (i := 0) rfl; have x1 := HY32.out.cell (i := 1) rfl; have x2 := HY32.out.cell (i := 2) rfl; have x3 := HY32.out.cell (i := 3) rfl; have y0 := HY32.out.frz 0; have y1 := HY32.out.frz 1; have y2 := HY32.out.frz 2; have y3 := HY32.out.frz 3; have hx := HY32.out.lt
         refine hK.out _ _ (by exact ⟨a0, a1, a2, a3, n0⟩) (fun hHf32 => ?_)
         clear hK K
         try simp only [Act.put, List.setIfInBounds_toArray, List.set_cons_zero, List.set_cons_succ]
         refine wpAnyH_ready (rs := [11]) (by kernel_rfl) (by simp) (AllReadyH.cons (by simp only [List.getElem?_toArray, List.getElem?_cons_succ, List.getElem?_cons_zero]; rfl) (fun K hK => ?_) AllReadyH.nil)
         go_simp
         have HZ9 := Lib.hid (HV32.out.set4 hR8 (.string ⟨xh.toArray⟩) (.string ⟨xp.toArray⟩) (.string ⟨xq.toArray⟩) (.bool xb))
         have HXZ := Lib.hid (show Bx ((((v32.setCell ⟨v31.heap.size, 0, none⟩ (.string ⟨xh.toArray⟩)).setCell ⟨v31.heap.size, 1, none⟩ (.string ⟨xp.toArray⟩)).setCell ⟨v31.heap.size, 2, none⟩ (.string ⟨xq.toArray⟩)).setCell ⟨v31.heap.size, 3, none⟩ (.bool xb)) v31.heap.size 27 #[.string ⟨xh.toArray⟩, .string ⟨xp.toArray⟩, .string ⟨xq.toArray⟩, .bool xb] from ((((HY32.out.set 0 (.string ⟨xh.toArray⟩)).set 1 (.string ⟨xp.toArray⟩)).set 2 (.string ⟨xq.toArray⟩)).set 3 (.bool xb)))
         obtain ⟨z9, hz9⟩ : ∃ z, ((((v32.setCell ⟨v31.heap.size, 0, none⟩ (.string ⟨xh.toArray⟩)).setCell ⟨v31.heap.size, 1, none⟩ (.string ⟨xp.toArray⟩)).setCell ⟨v31.heap.size, 2, none⟩ (.string ⟨xq.toArray⟩)).setCell ⟨v31.heap.size, 3, none⟩ (.bool xb)) = z := ⟨_, rfl⟩
         rw [hz9] at HZ9 HXZ ⊢
         clear hz9
         clear a0 a1 a2 a3 n0
         clear x0 x1 x2 x3 y0 y1 y2 y3 hx
         have a0 := keepC HZ9.out.bel HF10.out.1; have a1 := keepC HZ9.out.bel HF10.out.2.1; have a2 := keepC HZ9.out.bel HF10.out.2.2.1; have a3 := keepC HZ9.out.bel HF10.out.2.2.2.1; have n0 := keepC HZ9.out.bel HF10.out.2.2.2.2
         refine hK.out _ _ (by exact ⟨a0, a1, a2, a3, n0⟩) (fun hHf9 => ?_)
         clear hK K
         try simp only [Act.put, List.setIfInBounds_toArray, List.set_cons_zero, List.set_cons_succ]
         refine Hd.tk 12 ?_
         try simp only [Act.put, List.setIfInBounds_toArray, List.set_cons_zero, List.set_cons_succ]
         refine wpAnyH_done (by kernel_rfl) ?_ _
         go_wp2_with fail
         go_meet
         exact ⟨_, rfl, rfl, HZ9.out.bel, HXZ.out⟩
        ·go_simp
         have HV31 := Lib.hid (HV30.out.older ((Below.refl _ _).alloc (Nat.le_refl _) (.cells #[.string ⟨#[]⟩, .string ⟨#[]⟩, .string ⟨#[]⟩, .bool false] 27)))
         have HY31 := Lib.hid (Bx.new v30 27 #[.string ⟨#[]⟩, .string ⟨#[]⟩, .string ⟨#[]⟩, .bool false])
         have hR8 := HV30.out.bel.size
         obtain ⟨v31, hwa31⟩ : ∃ z, (v30).alloc (.cells #[.string ⟨#[]⟩, .string ⟨#[]⟩, .string ⟨#[]⟩, .bool false] 27) = z := ⟨_, rfl⟩
         rw [hwa31] at HV31 HY31 ⊢
         clear hwa31
         clear a0 a1 a2 a3 n0
         have a0 := keepC HV31.out.bel HF10.out.1; have a1 := keepC HV31.out.bel HF10.out.2.1; have a2 := keepC HV31.out.bel HF10.out.2.2.1; have a3 := keepC HV31.out.bel HF10.out.2.2.2.1; have n0 := keepC HV31.out.bel HF10.out.2.2.2.2
         have x0 := HY31.out.cell (i := 0) rfl; have x1 := HY31.out.cell (i := 1) rfl; have x2 := HY31.out.cell (i := 2) rfl; have x3 := HY31.out.cell (i := 3) rfl; have y0 := HY31.out.frz 0; have y1 := HY31.out.frz 1; have y2 := HY31.out.frz 2; have y3 := HY31.out.frz 3; have hx := HY31.out.lt
         refine hK.out _ _ (by exact ⟨a0, a1, a2, a3, n0⟩) (fun hHf31 => ?_)
         clear hK K
         try simp only [Act.put, List.setIfInBounds_toArray, List.set_cons_zero, List.set_cons_succ]
         refine wpAnyH_ready (rs := [6]) (by kernel_rfl) (by simp) (AllReadyH.cons (by simp only [List.getElem?_toArray, List.getElem?_cons_succ, List.getElem?_cons_zero]; rfl) (fun K hK => ?_) AllReadyH.nil)
         go_simp
         go_at_call 17
         refine (HKV.out _ (HG10.out.below HV31.out.bel) (HK10.out.pl.ring.older HV31.out.bel)).mono ?_
         rintro e v32 ⟨rfl, hb32⟩
         have HV32 := Lib.hid (HV31.out.older hb32)
         have HY32 := Lib.hid (HY31.out.older hb32)
         clear x0 x1 x2 x3 y0 y1 y2 y3 hx
         have x0 := HY32.out.cell (i := 0) rfl; have x1 := HY32.out.cell (i := 1) rfl; have x2 := HY32.out.cell (i := 2) rfl; have x3 := HY32.out.cell (i := 3) rfl; have y0 := HY32.out.frz 0; have y1 := HY32.out.frz 1; have y2 := HY32.out.frz 2; have y3 := HY32.out.frz 3; have hx := HY32.out.lt
         clear a0 a1 a2 a3 n0
         have a0 := keepC HV32.out.bel HF10.out.1; have a1 := keepC HV32.out.bel HF10.out.2.1; have a2 := keepC HV32.out.bel HF10.out.2.2.1; have a3 := keepC HV32.out.bel HF10.out.2.2.2.1; have n0 := keepC HV32.out.bel HF10.out.2.2.2.2
         clear hb32
         go_wp2_with fail
         refine hK.out _ _ (by exact ⟨a0, a1, a2, a3, n0⟩) (fun hHf32 => ?_)
         clear hK K
         try simp only [Act.put, List.setIfInBounds_toArray, List.set_cons_zero, List.set_cons_succ]
         refine Hd.tk 7 ?_
         try simp only [Act.put, List.setIfInBounds_toArray, List.set_cons_zero, List.set_cons_succ]
         refine Hd.tk 8 ?_
         try simp only [Act.put, List.setIfInBounds_toArray, List.set_cons_zero, List.set_cons_succ]
         refine Hd.tk 9 ?_
         try simp only [Act.put, List.setIfInBounds_toArray, List.set_cons_zero, List.set_cons_succ]
         refine wpAnyH_ready (rs := [11]) (by kernel_rfl) (by simp) (AllReadyH.cons (by simp only [List.getElem?_toArray, List.getElem?_cons_succ, List.getElem?_cons_zero]; rfl) (fun K hK => ?_) AllReadyH.nil)
         go_simp
         have HZ9 := Lib.hid (HV32.out.set4 hR8 (.string ⟨xh.toArray⟩) (.string ⟨xp.toArray⟩) (.string ⟨xq.toArray⟩) (.bool xb))
         have HXZ := Lib.hid (show Bx ((((v32.setCell ⟨v30.heap.size, 0, none⟩ (.string ⟨xh.toArray⟩)).setCell ⟨v30.heap.size, 1, none⟩ (.string ⟨xp.toArray⟩)).setCell ⟨v30.heap.size, 2, none⟩ (.string ⟨xq.toArray⟩)).setCell ⟨v30.heap.size, 3, none⟩ (.bool xb)) v30.heap.size 27 #[.string ⟨xh.toArray⟩, .string ⟨xp.toArray⟩, .string ⟨xq.toArray⟩, .bool xb] from ((((HY32.out.set 0 (.string ⟨xh.toArray⟩)).set 1 (.string ⟨xp.toArray⟩)).set 2 (.string ⟨xq.toArray⟩)).set 3 (.bool xb)))
         obtain ⟨z9, hz9⟩ : ∃ z, ((((v32.setCell ⟨v30.heap.size, 0, none⟩ (.string ⟨xh.toArray⟩)).setCell ⟨v30.heap.size, 1, none⟩ (.string ⟨xp.toArray⟩)).setCell ⟨v30.heap.size, 2, none⟩ (.string ⟨xq.toArray⟩)).setCell ⟨v30.heap.size, 3, none⟩ (.bool xb)) = z := ⟨_, rfl⟩
         rw [hz9] at HZ9 HXZ ⊢
         clear hz9
         clear a0 a1 a2 a3 n0
         clear x0 x1 x2 x3 y0 y1 y2 y3 hx
         have a0 := keepC HZ9.out.bel HF10.out.1; have a1 := keepC HZ9.out.bel HF10.out.2.1; have a2 := keepC HZ9.out.bel HF10.out.2.2.1; have a3 := keepC HZ9.out.bel HF10.out.2.2.2.1; have n0 := keepC HZ9.out.bel HF10.out.2.2.2.2
         refine hK.out _ _ (by exact ⟨a0, a1, a2, a3, n0⟩) (fun hHf9 => ?_)
         clear hK K
         try simp only [Act.put, List.setIfInBounds_toArray, List.set_cons_zero, List.set_cons_succ]
         refine Hd.tk 12 ?_
         try simp only [Act.put, List.setIfInBounds_toArray, List.set_cons_zero, List.set_cons_succ]
         refine wpAnyH_done (by kernel_rfl) ?_ _
         go_wp2_with fail
         go_meet
         exact ⟨_, rfl, rfl, HZ9.out.bel, HXZ.out⟩
       ·go_simp
        have HV30 := Lib.hid (HB0d.out.older ((Below.refl _ _).alloc (Nat.le_refl _) (.cells #[.string ⟨#[]⟩, .string ⟨#[]⟩, .string ⟨#[]⟩, .bool false] 27)))
        have HY30 := Lib.hid (Bx.new wd 27 #[.string ⟨#[]⟩, .string ⟨#[]⟩, .string ⟨#[]⟩, .bool false])
        have hR8 := HB0d.out.bel.size
        obtain ⟨v30, hwa30⟩ : ∃ z, (wd).alloc (.cells #[.string ⟨#[]⟩, .string ⟨#[]⟩, .string ⟨#[]⟩, .bool false] 27) = z := ⟨_, rfl⟩
        rw [hwa30] at HV30 HY30 ⊢
        clear hwa30
        clear a0 a1 a2 a3 n0
        have a0 := keepC HV30.out.bel HF10.out.1; have a1 := keepC HV30.out.bel HF10.out.2.1; have a2 := keepC HV30.out.bel HF10.out.2.2.1; have a3 := keepC HV30.out.bel HF10.out.2.2.2.1; have n0 := keepC HV30.out.bel HF10.out.2.2.2.2
        have x0 := HY30.out.cell (i := 0) rfl; have x1 := HY30.out.cell (i := 1) rfl; have x2 := HY30.out.cell (i := 2) rfl; have x3 := HY30.out.cell (i := 3) rfl; have y0 := HY30.out.frz 0; have y1 := HY30.out.frz 1; have y2 := HY30.out.frz 2; have y3 := HY30.out.frz 3; have hx := HY30.out.lt
        refine hK.out _ _ (by exact ⟨a0, a1, a2, a3, n0⟩) (fun hHf30 => ?_)
        clear hK K
        try simp only [Act.put, List.setIfInBounds_toArray, List.set_cons_zero, List.set_cons_succ]
        refine wpAnyH_ready (rs := [3]) (by kernel_rfl) (by simp) (AllReadyH.cons (by simp only [List.getElem?_toArray, List.getElem?_cons_succ, List.getElem?_cons_zero]; rfl) (fun K hK => ?_) AllReadyH.nil)
        go_simp
        go_at_call 29
        refine (A1.of_any ⟨h, p, q, b⟩ _).mono ?_
        rintro e v31 ⟨rfl, hb31⟩
        have HV31 := Lib.hid (HV30.out.older hb31)
        have HY31 := Lib.hid (HY30.out.older hb31)
        clear x0 x1 x2 x3 y0 y1 y2 y3 hx
        have x0 := HY31.out.cell (i := 0) rfl; have x1 := HY31.out.cell (i := 1) rfl; have x2 := HY31.out.cell (i := 2) rfl; have x3 := HY31.out.cell (i := 3) rfl; have y0 := HY31.out.frz 0; have y1 := HY31.out.frz 1; have y2 := HY31.out.frz 2; have y3 := HY31.out.frz 3; have hx := HY31.out.lt
        clear a0 a1 a2 a3 n0
        have a0 := keepC HV31.out.bel HF10.out.1; have a1 := keepC HV31.out.bel HF10.out.2.1; have a2 := keepC HV31.out.bel HF10.out.2.2.1; have a3 := keepC HV31.out.bel HF10.out.2.2.2.1; have n0 := keepC HV31.out.bel HF10.out.2.2.2.2
        clear hb31
        go_wp2_with fail
        refine hK.out _ _ (by exact ⟨a0, a1, a2, a3, n0⟩) (fun hHf31 => ?_)
        clear hK K
        try simp only [Act.put, List.setIfInBounds_toArray, List.set_cons_zero, List.set_cons_succ]
        refine wpAnyH_ready (rs := [6]) (by kernel_rfl) (by simp) (AllReadyH.cons (by simp only [List.getElem?_toArray, List.getElem?_cons_succ, List.getElem?_cons_zero]; rfl) (fun K hK => ?_) AllReadyH.nil)
        go_simp
        go_at_call 17
        refine (HKV.out _ (HG10.out.below HV31.out.bel) (HK10.out.pl.ring.older HV31.out.bel)).mono ?_
        rintro e v32 ⟨rfl, hb32⟩
        have HV32 := Lib.hid (HV31.out.older hb32)
        have HY32 := Lib.hid (HY31.out.older hb32)
        clear x0 x1 x2 x3 y0 y1 y2 y3 hx
        have x0 := HY32.out.cell (i := 0) rfl; have x1 := HY32.out.cell (i := 1) rfl; have x2 := HY32.out.cell (i := 2) rfl; have x3 := HY32.out.cell (i := 3) rfl; have y0 := HY32.out.frz 0; have y1 := HY32.out.frz 1; have y2 := HY32.out.frz 2; have y3 := HY32.out.frz 3; have hx := HY32.out.lt
        clear a0 a1 a2 a3 n0
        have a0 := keepC HV32.out.bel HF10.out.1; have a1 := keepC HV32.out.bel HF10.out.2.1; have a2 := keepC HV32.out.bel HF10.out.2.2.1; have a3 := keepC HV32.out.bel HF10.out.2.2.2.1; have n0 := keepC HV32.out.bel HF10.out.2.2.2.2
        clear hb32
        go_wp2_with fail
        refine hK.out _ _ (by exact ⟨a0, a1, a2, a3, n0⟩) (fun hHf32 => ?_)
        clear hK K
        try simp only [Act.put, List.setIfInBounds_toArray, List.set_cons_zero, List.set_cons_succ]
        refine Hd.tk 7 ?_
        try simp only [Act.put, List.setIfInBounds_toArray, List.set_cons_zero, List.set_cons_succ]
        refine Hd.tk 8 ?_
        try simp only [Act.put, List.setIfInBounds_toArray, List.set_cons_zero, List.set_cons_succ]
        refine Hd.tk 9 ?_
        try simp only [Act.put, List.setIfInBounds_toArray, List.set_cons_zero, List.set_cons_succ]
        refine wpAnyH_ready (rs := [11]) (by kernel_rfl) (by simp) (AllReadyH.cons (by simp only [List.getElem?_toArray, List.getElem?_cons_succ, List.getElem?_cons_zero]; rfl) (fun K hK => ?_) AllReadyH.nil)
        go_simp
        have HZ9 := Lib.hid (HV32.out.set4 hR8 (.string ⟨xh.toArray⟩) (.string ⟨xp.toArray⟩) (.string ⟨xq.toArray⟩) (.bool xb))
        have HXZ := Lib.hid (show Bx ((((v32.setCell ⟨wd.heap.size, 0, none⟩ (.string ⟨xh.toArray⟩)).setCell ⟨wd.heap.size, 1, none⟩ (.string ⟨xp.toArray⟩)).setCell ⟨wd.heap.size, 2, none⟩ (.string ⟨xq.toArray⟩)).setCell ⟨wd.heap.size, 3, none⟩ (.bool xb)) wd.heap.size 27 #[.string ⟨xh.toArray⟩, .string ⟨xp.toArray⟩, .string ⟨xq.toArray⟩, .bool xb] from ((((HY32.out.set 0 (.string ⟨xh.toArray⟩)).set 1 (.string ⟨xp.toArray⟩)).set 2 (.string ⟨xq.toArray⟩)).set 3 (.bool xb)))
        obtain ⟨z9, hz9⟩ : ∃ z, ((((v32.setCell ⟨wd.heap.size, 0, none⟩ (.string ⟨xh.toArray⟩)).setCell ⟨wd.heap.size, 1, none⟩ (.string ⟨xp.toArray⟩)).setCell ⟨wd.heap.size, 2, none⟩ (.string ⟨xq.toArray⟩)).setCell ⟨wd.heap.size, 3, none⟩ (.bool xb)) = z := ⟨_, rfl⟩
        rw [hz9] at HZ9 HXZ ⊢
        clear hz9
        clear a0 a1 a2 a3 n0
        clear x0 x1 x2 x3 y0 y1 y2 y3 hx
        have a0 := keepC HZ9.out.bel HF10.out.1; have a1 := keepC HZ9.out.bel HF10.out.2.1; have a2 := keepC HZ9.out.bel HF10.out.2.2.1; have a3 := keepC HZ9.out.bel HF10.out.2.2.2.1; have n0 := keepC HZ9.out.bel HF10.out.2.2.2.2
        refine hK.out _ _ (by exact ⟨a0, a1, a2, a3, n0⟩) (fun hHf9 => ?_)
        clear hK K
        try simp only [Act.put, List.setIfInBounds_toArray, List.set_cons_zero, List.set_cons_succ]
        refine Hd.tk 12 ?_
        try simp only [Act.put, List.setIfInBounds_toArray, List.set_cons_zero, List.set_cons_succ]
        refine wpAnyH_done (by kernel_rfl) ?_ _
        go_wp2_with fail
        go_meet
        exact ⟨_, rfl, rfl, HZ9.out.bel, HXZ.out⟩
      case rest =>
       obtain ⟨R11, rfl, rfl, hb11, hx11⟩ := hcut
       have HBw := Lib.hid (BelS.mk hb11)
       have HX11 := Lib.hid hx11
       clear hb11 hx11
       have a0 := keepC HBw.out.bel HF10.out.1; have a1 := keepC HBw.out.bel HF10.out.2.1; have a2 := keepC HBw.out.bel HF10.out.2.2.1; have a3 := keepC HBw.out.bel HF10.out.2.2.2.1; have n0 := keepC HBw.out.bel HF10.out.2.2.2.2
       go_wp2_with fail
       refine (HRV.out _ (HK10.out.pl.ref.older HBw.out.bel)).mono ?_
       rintro e w12 ⟨rfl, hb12⟩
       have HB12 := Lib.hid (HBX.out.trans ((HB10.out.trans ((HBw.out.older hb12).bel.mono HB10.out.size)).mono HBX.out.size))
       have HX12 := Lib.hid (HX11.out.older hb12)
       clear hb12
       clear a0 a1 a2 a3 n0
       have HB6 := Lib.hid (HB12.out.alloc HB12.out.size (.cells #[.string ⟨xh.toArray⟩, .string ⟨xp.toArray⟩, .string ⟨xq.toArray⟩, .bool xb] 63))
       have HX6 := Lib.hid (HX12.out.older ((Below.refl _ _).alloc (Nat.le_refl _) (.cells #[.string ⟨xh.toArray⟩, .string ⟨xp.toArray⟩, .string ⟨xq.toArray⟩, .bool xb] 63)))
       have HY6 := Lib.hid (Bx.new w12 63 #[.string ⟨xh.toArray⟩, .string ⟨xp.toArray⟩, .string ⟨xq.toArray⟩, .bool xb])
       go_wp2_with fail
       obtain ⟨w6, hw6⟩ : ∃ z, w12.alloc (.cells #[.string ⟨xh.toArray⟩, .string ⟨xp.toArray⟩, .string ⟨xq.toArray⟩, .bool xb] 63) = z := ⟨_, rfl⟩
       rw [hw6] at HB6 HX6 HY6 ⊢
       clear hw6
       obtain ⟨R9, hR9⟩ : ∃ z, w12.heap.size = z := ⟨_, rfl⟩
       rw [hR9] at HY6 ⊢
       clear hR9
       have HAB := adB_refl xh xp xq xb
       have HBd := Lib.hid (HB6.out.trans ((Below.refl w6.heap.size w6).drew.mono HB6.out.size))
       have HXd := Lib.hid (HX6.out.older ((Below.refl _ _).drew))
       have HYd := Lib.hid (HY6.out.older ((Below.refl _ _).drew))
       have a0 := HX6.out.cell (i := 0) rfl; have a1 := HX6.out.cell (i := 1) rfl; have a2 := HX6.out.cell (i := 2) rfl; have a3 := HX6.out.cell (i := 3) rfl; have b0 := HY6.out.cell (i := 0) rfl; have b1 := HY6.out.cell (i := 1) rfl; have b2 := HY6.out.cell (i := 2) rfl; have b3 := HY6.out.cell (i := 3) rfl; have hza := HX6.out.lt; have hzb := HY6.out.lt
       refine wp_region_held_drew (S := fun w' => w'.cell? ⟨R11, 0, none⟩ = some (.string ⟨xh.toArray⟩) ∧ w'.cell? ⟨R11, 1, none⟩ = some (.string ⟨xp.toArray⟩) ∧ w'.cell? ⟨R11, 2, none⟩ = some (.string ⟨xq.toArray⟩) ∧ w'.cell? ⟨R11, 3, none⟩ = some (.bool xb) ∧ w'.cell? ⟨R9, 0, none⟩ = some (.string ⟨xh.toArray⟩) ∧ w'.cell? ⟨R9, 1, none⟩ = some (.string ⟨xp.toArray⟩) ∧ w'.cell? ⟨R9, 2, none⟩ = some (.string ⟨xq.toArray⟩) ∧ w'.cell? ⟨R9, 3, none⟩ = some (.bool xb)) (by kernel_rfl) (by exact ⟨a0, a1, a2, a3, b0, b1, b2, b3⟩) (fun hHeld => ?_)
       obtain ⟨wd, hwd⟩ : ∃ z, w6.drew = z := ⟨_, rfl⟩
       rw [hwd] at hHeld HBd HXd HYd ⊢
       clear hwd
       clear a0 a1 a2 a3 b0 b1 b2 b3 hza hzb
       have a0 := HXd.out.cell (i := 0) rfl; have a1 := HXd.out.cell (i := 1) rfl; have a2 := HXd.out.cell (i := 2) rfl; have a3 := HXd.out.cell (i := 3) rfl; have b0 := HYd.out.cell (i := 0) rfl; have b1 := HYd.out.cell (i := 1) rfl; have b2 := HYd.out.cell (i := 2) rfl; have b3 := HYd.out.cell (i := 3) rfl; have hza := HXd.out.lt; have hzb := HYd.out.lt
       refine Hd.tk 0 ?_
       try simp only [Act.put, List.setIfInBounds_toArray, List.set_cons_zero, List.set_cons_succ]
       refine Hd.tk 2 ?_
       try simp only [Act.put, List.setIfInBounds_toArray, List.set_cons_zero, List.set_cons_succ]
       refine wpAnyH_ready (rs := [1]) (by kernel_rfl) (by simp) (AllReadyH.cons (by simp only [List.getElem?_toArray, List.getElem?_cons_succ, List.getElem?_cons_zero]; rfl) (fun K hK => ?_) AllReadyH.nil)
       go_simp
       go_at_call 31
       refine (HNUM.out _).mono ?_
       rintro e u1 ⟨rfl, rfl⟩
       go_wp2_with fail
       refine hK.out _ _ (by exact ⟨a0, a1, a2, a3, b0, b1, b2, b3⟩) (fun hHg => ?_)
       clear hK K
       try simp only [Act.put, List.setIfInBounds_toArray, List.set_cons_zero, List.set_cons_succ]
       refine Hd.tk 3 ?_
       try simp only [Act.put, List.setIfInBounds_toArray, List.set_cons_zero, List.set_cons_succ]
       refine Hd.tk 4 ?_
       try simp only [Act.put, List.setIfInBounds_toArray, List.set_cons_zero, List.set_cons_succ]
       refine Hd.tk 5 ?_
       try simp only [Act.put, List.setIfInBounds_toArray, List.set_cons_zero, List.set_cons_succ]
       refine Hd.tk 7 ?_
       try simp only [Act.put, List.setIfInBounds_toArray, List.set_cons_zero, List.set_cons_succ]
       refine wpAnyH_ready (rs := [6]) (by kernel_rfl) (by simp) (AllReadyH.cons (by simp only [List.getElem?_toArray, List.getElem?_cons_succ, List.getElem?_cons_zero]; rfl) (fun K hK => ?_) AllReadyH.nil)
       go_simp
       go_at_call 32
       refine (A1.ref_any ⟨xh, xp, xq, xb⟩ _).mono ?_
       rintro e u2 ⟨rfl, hu2⟩
       have HBe := Lib.hid (HBd.out.trans (hu2.mono HBd.out.size))
       have HXe := Lib.hid (HXd.out.older hu2)
       have HYe := Lib.hid (HYd.out.older hu2)
       clear a0 a1 a2 a3 b0 b1 b2 b3 hza hzb
       have a0 := HXe.out.cell (i := 0) rfl; have a1 := HXe.out.cell (i := 1) rfl; have a2 := HXe.out.cell (i := 2) rfl; have a3 := HXe.out.cell (i := 3) rfl; have b0 := HYe.out.cell (i := 0) rfl; have b1 := HYe.out.cell (i := 1) rfl; have b2 := HYe.out.cell (i := 2) rfl; have b3 := HYe.out.cell (i := 3) rfl; have hza := HXe.out.lt; have hzb := HYe.out.lt
       clear hu2
       go_wp2_with fail
       refine hK.out _ _ (by exact ⟨a0, a1, a2, a3, b0, b1, b2, b3⟩) (fun hHh => ?_)
       clear hK K
       try simp only [Act.put, List.setIfInBounds_toArray, List.set_cons_zero, List.set_cons_succ]
       refine Hd.tk 8 ?_
       try simp only [Act.put, List.setIfInBounds_toArray, List.set_cons_zero, List.set_cons_succ]
       refine Hd.tk 9 ?_
       try simp only [Act.put, List.setIfInBounds_toArray, List.set_cons_zero, List.set_cons_succ]
       refine Hd.tk 10 ?_
       try simp only [Act.put, List.setIfInBounds_toArray, List.set_cons_zero, List.set_cons_succ]
       refine wpAnyH_done (by kernel_rfl) ?_ _
       go_wp2_with fail
       go_ret
       exact ⟨rfl, HBe.out⟩
 ·have hsb : (20 : Int) < (acts.length : Int) ∨ (2000 : Int) < (h.length : Int) + (p.length : Int) + (q.length : Int) := by omega
  by_cases hs1i : (20 : Int) < (acts.length : Int)
  ·clear hs hsb
   go_wp2_with fail
   refine (awake50_any _).mono ?_
   rintro e w3 ⟨rfl, hb3⟩
   have HB3 := Lib.hid (HB1.out.trans (hb3.mono HB1.out.size))
   clear hb3
   go_wp2_with fail
   go_ret
   exact ⟨rfl, HB3.out⟩
  ·have hs2i : (2000 : Int) < (h.length : Int) + (p.length : Int) + (q.length : Int) := by omega
   clear hs hsb
   go_wp2_with fail
   refine (awake50_any _).mono ?_
   rintro e w3 ⟨rfl, hb3⟩
   have HB3 := Lib.hid (HB1.out.trans (hb3.mono HB1.out.size))
   clear hb3
   go_wp2_with fail
   go_ret
   exact ⟨rfl, HB3.out⟩

/-- What the walk gives, for every argument. -/
theorem contract (H : Type) (enc : TypeId × Value → H) (W : World) (base : Nat) (args : Array Value) (ds gs : List (DataW H)) (before : List MemPlace)
    (hval : ∀ (j : Nat) t v, Tryz.f4.params[j]? = some t → args[j]? = some v → Value.okWide Tryz.prog W .any base t v)
    (hW : DataW.Whole enc Tryz.prog Tryz.f4.params.toList Rows.keyringVerifiesSpec.vars false W args.toList ds gs before) (hsz : (DataW.weightsEach Tryz.prog Tryz.f4.params.toList (ds ++ gs)).all (· ≤ reachBytes) = true) (hr : Sg.SgnAt W) :
    Calls Tryz.prog 4 args W fun e W' => ∃ v, e = .returned v ∧ Rows.keyringVerifiesSpec.post enc Tryz.prog Tryz.f4 false true false false W args v W' := by
 have hW' := hW
 have hlt := fun p hp => hW.lt p hp
 obtain ⟨p, q, hA0, hV, rfl, hfz, hnd⟩ := hW
 have hA : DataW.TrodAll enc Tryz.prog W 0 (fun _ => true) true Tryz.f4.params.toList args.toList ds p := hA0
 have hA1 := hA
 obtain ⟨rfl, rfl⟩ := trodVars_none hV
 rw [Tryz.params4] at hA hval
 obtain ⟨v0, vs0, d0, ds0, p0, q0, hargs, rfl, rfl, h0, r0⟩ := trodAll_cons hA
 obtain ⟨rfl, rfl, rfl⟩ := trodAll_nil r0
 obtain rfl : args = #[v0] := by cases args; simp_all
 have fin : ∀ W', Below W.heap.size W W' → Rows.keyringVerifiesSpec.post enc Tryz.prog Tryz.f4 false true false false W #[v0] (.bool true) W' := fun W' hb => by
  simp only [List.append_nil] at hA1 hW' hlt
  exact ⟨_, _, _, [], _, [], hW', trodAll_cons_mk (shut_bool Tryz.underlying4 _) trodAll_mk0, Fr.trodAll_below (by kernel_rfl) _ (by kernel_rfl) hA1 hb hlt, rfl, hb.frame _, fun h => by cases h⟩
 clear hW' hA0 hA1 hlt
 rw [Tryz.params4, List.append_nil] at hsz
 obtain ⟨u0, acts0, lh0, lp0, lq0, lb0, tn0, id0, frm0, til0, sn0, now0, de0, rfl, ha0, hl0, hok0, ht0, hs0, rfl⟩ := Op.open_ask (hval 0 66 v0 rfl rfl) h0
 have zc0 := Op.ask_lens hsz (j := 0) rfl rfl
 refine (walk lh0 lp0 lq0 lb0 tn0 id0 frm0 til0 sn0 now0 acts0 u0 W hr zc0.1 zc0.2.1 zc0.2.2.1 zc0.2.2.2 ha0 hl0 hok0 ht0 hs0).mono fun e W' ⟨he, hb⟩ => ?_
 subst he
 exact ⟨_, rfl, fin W' hb⟩

theorem laid_met (os : Os) : laidMet Tryz.prog Rows.keyringVerifiesRow.laid ((Fr.laidE Rows.keyringVerifiesRow.laid os).forCall (fun _ _ => 0) ⟨#[], #[.agg #[.slice none 0 0, .string ⟨#[]⟩, .string ⟨#[]⟩, .string ⟨#[]⟩, .bool false, .int .u8 0, .string ⟨#[]⟩, .int .i64 0, .int .i64 0, .int .u8 0, .int .i64 0]], []⟩).memory :=
 laidMet_of_run' 8 (by kernel_rfl) (by kernel_rfl)
theorem reads (os : Os) {H : Type} (enc : TypeId × Value → H) : ∃ places, DataW.whole enc Tryz.prog ((Fr.laidE Rows.keyringVerifiesRow.laid os).forCall (fun _ _ => 0) ⟨#[], #[.agg #[.slice none 0 0, .string ⟨#[]⟩, .string ⟨#[]⟩, .string ⟨#[]⟩, .bool false, .int .u8 0, .string ⟨#[]⟩, .int .i64 0, .int .i64 0, .int .u8 0, .int .i64 0]], []⟩).memory Tryz.f4.params.toList Rows.keyringVerifiesSpec.vars false (#[.agg #[.slice none 0 0, .string ⟨#[]⟩, .string ⟨#[]⟩, .string ⟨#[]⟩, .bool false, .int .u8 0, .string ⟨#[]⟩, .int .i64 0, .int .i64 0, .int .u8 0, .int .i64 0]] : Array Value).toList 8 = some ([.agg [.nil, .agg [.lit (.string []), .lit (.string []), .lit (.string []), .lit (.bool false)], .lit (.int .u8 0), .agg [.lit (.string []), .lit (.int .i64 0), .lit (.int .i64 0)], .lit (.int .u8 0), .lit (.int .i64 0)]], [], places) :=
 ⟨[], by kernel_rfl⟩

theorem lifted (os : Os) (started : os.Started) (H : Type) (enc : TypeId × Value → H) (F : Stop.Interp) :
 ReturnsInHanded {} Tryz.checked os 4 .any ((OpenSpec.ofChange Rows.keyringVerifiesSpec).preRow enc Tryz.prog Tryz.f4 Rows.keyringVerifiesRow.domain false Rows.keyringVerifiesRow.laid) (((OpenSpec.ofChange Rows.keyringVerifiesSpec).at F).post enc Tryz.prog Tryz.f4 false true false false) := by
 obtain ⟨places, hx⟩ := reads os enc
 refine returnsInHanded_of_row (C := Tryz.checked) (s := OpenSpec.ofChange Rows.keyringVerifiesSpec) Fr.own started (by kernel_rfl) Tryz.func4
   (witness_row_at (enc := enc) (C := Tryz.checked) false (Fr.laidE Rows.keyringVerifiesRow.laid os) #[.agg #[.slice none 0 0, .string ⟨#[]⟩, .string ⟨#[]⟩, .string ⟨#[]⟩, .bool false, .int .u8 0, .string ⟨#[]⟩, .int .i64 0, .int .i64 0, .int .u8 0, .int .i64 0]] rfl (by kernel_rfl) (by kernel_rfl) (by kernel_rfl)
     (OpenSpec.preRow_of_cond 8 hx (by kernel_rfl) (fun k hk => by cases hk) (by kernel_rfl) (laid_met os))) ?_
 intro W base args ds gs before hval hW _ hcond hsz hlaid hsh _
 exact contract H enc W base args ds gs before hval hW (by have h9 : (DataW.weightsEach Tryz.prog (Tryz.f4.params.toList ++ []) (ds ++ gs)).all (· ≤ reachBytes) = true := hsz; rw [List.append_nil] at h9; exact h9) (Fr.sgn_laid hsh hlaid (by kernel_rfl) (by repeat first | exact List.mem_cons_self .. | apply List.mem_cons_of_mem) (by repeat first | exact List.mem_cons_self .. | apply List.mem_cons_of_mem) (by repeat first | exact List.mem_cons_self .. | apply List.mem_cons_of_mem) (by repeat first | exact List.mem_cons_self .. | apply List.mem_cons_of_mem))

theorem k_0 : Rows.keyringVerifiesRow.wf (OpenSpec.ofChange (OpenSpec.ofChange Rows.keyringVerifiesSpec).bare) = true := by kernel_rfl
theorem k_1 : laidOutB Tryz.prog = true := Fr.sf_laidOut
theorem k_2 : mapsRowed Tryz.prog = true := Fr.sf_mapsRowed
theorem k_3 : Tryz.f4.params.all (Tryz.prog.readableRec ·) = true := by kernel_rfl
theorem k_4 : namedTie Tryz.prog Rows.keyringVerifiesRow.named (OpenSpec.ofChange Rows.keyringVerifiesSpec).bare.vars = true := by kernel_rfl
theorem k_5 : (Rows.keyringVerifiesRow.stops == []) = true := by kernel_rfl
theorem k_6 : (Tryz.prog.stops == []) = true := Fr.sf_stops
theorem k_7 : (Rows.keyringVerifiesRow.knobs == []) = true := by kernel_rfl
theorem k_8 : (Tryz.prog.stopKnobs == []) = true := Fr.sf_stopKnobs
theorem k_9 : (Rows.keyringVerifiesRow.inPlace == Tryz.prog.inPlace 4) = true := by kernel_rfl
theorem k_10 : (Rows.keyringVerifiesRow.unfollowed == Tryz.prog.unfollowed 4) = true := by kernel_rfl
theorem k_11 : (Rows.keyringVerifiesRow.recurses == Tryz.prog.recurses 4) = true := by kernel_rfl
theorem k_12 : (Rows.keyringVerifiesRow.named == Tryz.prog.varsNamed 4) = true := by kernel_rfl
theorem k_13 : (Rows.keyringVerifiesRow.maps == (Tryz.f4.params.toList ++ (OpenSpec.ofChange Rows.keyringVerifiesSpec).bare.plain.varTypes Tryz.prog).any (Tryz.prog.mapsRec ·)) = true := by kernel_rfl
theorem k_14 : (Rows.keyringVerifiesRow.ifaces == (Tryz.f4.params.toList ++ (OpenSpec.ofChange Rows.keyringVerifiesSpec).bare.plain.varTypes Tryz.prog).any (Tryz.prog.ifacesRec ·)) = true := by kernel_rfl
theorem k_15 : (Rows.keyringVerifiesRow.mapsOut == Tryz.prog.mapsAmong Tryz.f4.resultTypes.toList) = true := by kernel_rfl
theorem k_16 : (Rows.keyringVerifiesRow.loops == (Tryz.f4.params.toList ++ (OpenSpec.ofChange Rows.keyringVerifiesSpec).bare.plain.varTypes Tryz.prog).any (Tryz.prog.loopsFrom ·)) = true := by kernel_rfl
theorem k_17 : (Rows.keyringVerifiesRow.wideKeys == (Tryz.f4.params.toList ++ (OpenSpec.ofChange Rows.keyringVerifiesSpec).bare.plain.varTypes Tryz.prog ++ Tryz.f4.resultTypes.toList).any (Tryz.prog.wideKeysFrom ·)) = true := by kernel_rfl
theorem k_18 : (OpenSpec.ofChange Rows.keyringVerifiesSpec).bare.vars.all (Tryz.prog.varReadable ·) = true := by kernel_rfl
theorem k_19 : Tryz.f4.resultTypes.all (fun t => Tryz.prog.readableRec t && decide (t < Tryz.prog.types.size)) = true := by kernel_rfl
theorem k_20 : (Rows.keyringVerifiesRow.ifacesOut == Tryz.f4.resultTypes.toList.any (Tryz.prog.ifacesRec ·)) = true := by kernel_rfl
theorem k_21 : (Rows.keyringVerifiesRow.loopsOut == Tryz.f4.resultTypes.toList.any (Tryz.prog.loopsFrom ·)) = true := by kernel_rfl
theorem k_22 : (Rows.keyringVerifiesRow.plainKeys == Tryz.prog.plainKeys) = true := Fr.sf_plainKeys
theorem k_23 : Rows.keyringVerifiesRow.shortTexts.isNone = true := by kernel_rfl
theorem k_24 : Tryz.prog.stopsHeard = true := Fr.sf_heard
theorem k_25 : Tryz.prog.mayEnter = true := Fr.sf_mayEnter
theorem k_26 : (Rows.keyringVerifiesRow.lifted == Tryz.prog.liftsFinal) = true := Fr.sf_lifted
theorem k_27 : (Tryz.prog.make == some Rows.keyringVerifiesRow.make) = true := Fr.sf_make
theorem k_28 : (Rows.keyringVerifiesRow.kinds == (if Rows.keyringVerifiesRow.domain.isEmpty then [] else Tryz.f4.params.toList.map fun t => match Tryz.prog.underlying t with | some (.int k) => some k | _ => none)) = true := by kernel_rfl
theorem k_29 : (Rows.keyringVerifiesRow.pinned == Rows.keyringVerifiesRow.pinnedBy) = true := by kernel_rfl
theorem k_30 : (Rows.keyringVerifiesRow.veiled == (Tryz.f4.params.toList ++ (OpenSpec.ofChange Rows.keyringVerifiesSpec).bare.plain.varTypes Tryz.prog ++ Tryz.f4.resultTypes.toList).any (Tryz.prog.veiledRec ·)) = true := by kernel_rfl
theorem k_31 : Rows.keyringVerifiesRow.veiledFits Tryz.prog Tryz.f4.params.toList (Tryz.f4.params.toList ++ (OpenSpec.ofChange Rows.keyringVerifiesSpec).bare.plain.varTypes Tryz.prog ++ Tryz.f4.resultTypes.toList) = true := by kernel_rfl
theorem closed : joinedFacts Tryz.prog 4 Tryz.f4 (OpenSpec.ofChange Rows.keyringVerifiesSpec).bare Rows.keyringVerifiesRow = true := Op.andT (Op.andT (Op.andT (Op.andT (Op.andT (Op.andT (Op.andT (Op.andT (Op.andT (Op.andT (Op.andT (Op.andT (Op.andT (Op.andT (Op.andT (Op.andT (Op.andT (Op.andT (Op.andT (Op.andT (Op.andT (Op.andT (Op.andT (Op.andT (Op.andT (Op.andT (Op.andT (Op.andT (Op.andT (Op.andT (Op.andT (k_0) k_1) k_2) k_3) k_4) k_5) k_6) k_7) k_8) k_9) k_10) k_11) k_12) k_13) k_14) k_15) k_16) k_17) k_18) k_19) k_20) k_21) k_22) k_23) k_24) k_25) k_26) k_27) k_28) k_29) k_30) k_31

theorem said : Rows.KeyringVerifiesSaid :=
 OpenClaim.holds_of_cond 4 Tryz.f4 rfl rfl rfl rfl rfl rfl rfl ⟨rfl, rfl, rfl, rfl, rfl⟩ rfl rfl rfl rfl rfl (by kernel_rfl) Tryz.func4 closed
   (of_decide_eq_true (by kernel_rfl)) (by unfold Func.isWrapper; first | (rw [if_pos (by decide +kernel)]; kernel_rfl) | (rw [if_neg (by decide +kernel)]; exact ⟨rfl, rfl⟩))
   (fun os started H enc _ F => by rw [OpenClaim.pre_eq_preRow]; exact lifted os started H enc F)

theorem plain (b : Bool) (hb : b = Tryz.pinned.checked.prog.looks []) (f : FuncId) (fn : Func) (hf : Tryz.pinned.checked.prog.funcNamed "quayside/quaysidelaw50.KeyringVerifies" = some f) (hfn : Tryz.pinned.checked.prog.funcs[f]? = some fn) :
 b = Tryz.pinned.checked.prog.looks [] ∧ ∀ (j : Nat) t, fn.params[j]? = some t → Tryz.pinned.checked.prog.wantsStandIn t = false := by
 obtain rfl : f = 4 := Option.some.inj ((show Tryz.prog.funcNamed "quayside/quaysidelaw50.KeyringVerifies" = some 4 by kernel_rfl).symm.trans hf) |>.symm
 obtain rfl : fn = Tryz.f4 := (Option.some.inj (Tryz.func4.symm.trans hfn)).symm
 refine ⟨hb, fun j t ht => ?_⟩
 rw [Tryz.params4] at ht
 have hm : t ∈ [66] := by simpa using Array.mem_of_getElem? ht
 have hall : ([66].all fun u => !Tryz.prog.wantsStandIn u) = true := by kernel_rfl
 exact (show Tryz.prog.wantsStandIn t = false by simpa using List.all_eq_true.1 hall t hm)

theorem proved : Rows.KeyringVerifiesCardSaid :=
 Claim7.holds_tied_plain_at .later [] _ _ _ _ said (fun _ h => by cases h) (by kernel_rfl) (fun _ h => by cases h) keyringVerifies_row_tie rfl ⟨rfl, rfl⟩ (by kernel_rfl) rfl (plain _ (by kernel_rfl)) (by kernel_rfl)
#print axioms proved
end Go.Proofs.YtpkhbhdidkkebaaGreatDoor.lawKeyringVerifies
