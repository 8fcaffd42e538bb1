/- Contracts and plain facts that the statement's proof leans on (texts joined). No condition beyond those that each names. -/
import Derived.Deep.RegionHeld3
import Derived.OrdersHeld
import Derived.Test.YtpkhbhdidkkebaaGreatDoorPvZ
section
namespace Go.Proofs.YtpkhbhdidkkebaaGreatDoor
open Go.RowKit Pl Ad
set_option maxRecDepth 100000
set_option maxHeartbeats 4000000
set_option linter.unusedVariables false
set_option linter.unusedSimpArgs false
namespace Dg
open Kr
theorem rsum_any (a : Option Addr) (c : Nat) (m : Bs) (w : World) (h : SrcAt w (.slice a m.length c) m.length (bvals m)) (hm : m.length ≤ 1073741824) :
 Calls Tryz.prog 138 #[.slice a m.length c] w fun e w' => ∃ ua uc, e = .returned (.slice ua 32 uc) ∧ OwnWin w' w.heap.size 5 1 (.slice ua 32 uc) 32 (bvals (sumM mixM m)) ∧ Below w.heap.size w w' := by
 have hb0 := (Below.refl w.heap.size w).alloc (Nat.le_refl _) (.cells (stV initS) 155)
 have HS := Lib.hid (h.older hb0)
 have HB0 := Lib.hid hb0
 have HX0 := Lib.hid (Bx.new w 155 (stV initS))
 obtain ⟨P, hP⟩ : ∃ P, m ++ tailM m.length = P := ⟨_, rfl⟩
 have hP64 : P.length % 64 = 0 := by rw [← hP, List.length_append]; exact tailM_len _
 have hPl : P.length ≤ 1073742000 := by
  rw [← hP, List.length_append]
  have := zeros_lt m.length
  simp [tailM, be8]; omega
 have HFIN := Lib.hid (show outM (runL mixM initS P).1 = sumM mixM m by rw [← hP]; rfl)
 have HPAD : Hid (∀ wz : World, SrcAt wz (.slice a m.length c) m.length (bvals m) → Calls Tryz.prog 166 #[.slice a m.length c] wz fun e w' => ∃ ua uc, e = .returned (.slice ua P.length uc) ∧ OwnWin w' wz.heap.size 5 1 (.slice ua P.length uc) P.length (bvals P) ∧ Below wz.heap.size wz w') := Lib.hid (fun wz hs => by rw [← hP]; exact rpad_any a c m wz hs hm)
 have HP64 := Lib.hid hP64
 clear h hb0 hP hP64
 go_enter Tryz.func138, Tryz.ntmps138
 go_wp2_with fail
 refine (HPAD.out _ HS.out).mono ?_
 rintro e w1 ⟨pa, pc, rfl, hp1, hb1⟩
 have HP1 := Lib.hid (hp1.mono (C := w.heap.size) (fun k hk => by have := (hp1.lt k hk).1; have := HB0.out.size; omega))
 have HX1 := Lib.hid (HX0.out.older hb1)
 have HB1 := Lib.hid (HB0.out.trans (hb1.mono HB0.out.size))
 have HR0 := Lib.hid (show runL mixM initS (P.drop 0) = runL mixM initS P by rw [List.drop_zero])
 clear hp1 hb1
 go_wp2_with fail
 go_loopg [5] P.length (fun gq iv wr => ∃ (t : St) (i : Nat), iv = .int .i64 i ∧ i ≤ P.length ∧ Hid (i % 64 = 0) ∧ Hid (P.length ≤ gq + i) ∧ Bx wr w.heap.size 155 (stV t) ∧ OwnWin wr w.heap.size 5 1 (.slice pa P.length pc) P.length (bvals P) ∧ Hid (runL mixM t (P.drop i) = runL mixM initS P) ∧ Below w.heap.size w wr)
 case atStart => exact ⟨initS, 0, rfl, Nat.zero_le _, Lib.hid rfl, Lib.hid (by omega), HX1.out, HP1.out, HR0, HB1.out⟩
 case round =>
  obtain ⟨t, i, rfl, hi, HI, HQ, hbx, hown, HRUN, hbel⟩ := hrel
  clear HX1 HP1 HR0 HB1
  have HBX := Lib.hid hbx
  have HOW := Lib.hid hown
  have HBW := Lib.hid hbel
  obtain ⟨ta, tb, tc, td, te, tf, tg, th⟩ := t
  have c0 : wr.cell? ⟨w.heap.size, 0, none⟩ = some (.int .u32 ta) := hbx.cell (i := 0) rfl
  have c1 : wr.cell? ⟨w.heap.size, 1, none⟩ = some (.int .u32 tb) := hbx.cell (i := 1) rfl
  have c2 : wr.cell? ⟨w.heap.size, 2, none⟩ = some (.int .u32 tc) := hbx.cell (i := 2) rfl
  have c3 : wr.cell? ⟨w.heap.size, 3, none⟩ = some (.int .u32 td) := hbx.cell (i := 3) rfl
  have c4 : wr.cell? ⟨w.heap.size, 4, none⟩ = some (.int .u32 te) := hbx.cell (i := 4) rfl
  have c5 : wr.cell? ⟨w.heap.size, 5, none⟩ = some (.int .u32 tf) := hbx.cell (i := 5) rfl
  have c6 : wr.cell? ⟨w.heap.size, 6, none⟩ = some (.int .u32 tg) := hbx.cell (i := 6) rfl
  have c7 : wr.cell? ⟨w.heap.size, 7, none⟩ = some (.int .u32 th) := hbx.cell (i := 7) rfl
  have hzb := hbx.lt
  clear hbx hown hbel
  by_cases hlt : i < P.length
  ·have hge : i + 64 ≤ P.length := by have := HI.out; have := HP64.out; omega
   obtain ⟨g, o, c, e', hnc2, hcm, hBg, hglt, _⟩ := HOW.out.cells (by omega)
   cases e'
   have HBK := Lib.hid (own_blkAt HOW.out rfl hge)
   have hc1 : (i : Int) + 64 ≤ (pc : Int) := by omega
   have hc2 : (i : Int) ≤ (i : Int) + 64 := by omega
   have hi0 : (0 : Int) ≤ (i : Int) := by omega
   have hn1 : ((i : Int) + 64).toNat = i + 64 := by omega
   have hc3 : i + 64 ≤ pc := by omega
   have hc4 : i + 64 - i = 64 := by omega
   have hwi : IntKind.i64.wrap ((i : Int) + 64) = (i : Int) + 64 := by rw [IntKind.wrap_i64]; omega
   have hc5 : (0 : Int) ≤ (i : Int) + 64 := by omega
   have hc6 : i ≤ i + 64 := by omega
   obtain ⟨t, ht⟩ : ∃ t, mixM ⟨ta, tb, tc, td, te, tf, tg, th⟩ ((P.drop i).take 64) = t := ⟨_, rfl⟩
   have HT := Lib.hid ht
   clear ht
   obtain ⟨na, nb, nc, nd, ne, nf, ng, nh⟩ := t
   have hmix : Hid (∀ wz : World, Below wr.heap.size wr wz → Calls Tryz.prog 167 #[.agg #[.int .u32 ta, .int .u32 tb, .int .u32 tc, .int .u32 td, .int .u32 te, .int .u32 tf, .int .u32 tg, .int .u32 th], .slice (some ⟨g, o + i, none⟩) 64 (pc - i)] wz fun e w' => e = .returned (.agg #[.int .u32 na, .int .u32 nb, .int .u32 nc, .int .u32 nd, .int .u32 ne, .int .u32 nf, .int .u32 ng, .int .u32 nh]) ∧ Below wz.heap.size wz w') := Lib.hid (fun wz hb => by
    have h9 := block_any ((P.drop i).take 64) ⟨ta, tb, tc, td, te, tf, tg, th⟩ g (o + i) (pc - i) wz ⟨HBK.out.len, Nat.lt_of_lt_of_le HBK.out.lt hb.size, fun j hj => (hb.cell (p := ⟨g, o + i + j, none⟩) HBK.out.lt).trans (HBK.out.cell j hj)⟩ (by omega)
    rw [HT.out] at h9
    exact h9)
   go_wp2_with fail
   go_still_tail 6, (by kernel_rfl)
   change wpList _ _ _ _ _ wr.drew
   generalize hw9 : wr.drew = w9
   have hb9 : Below wr.heap.size wr w9 := by rw [← hw9]; exact (Below.refl _ _).drew
   have HX9 := Lib.hid (show Box8 w9 w.heap.size w.heap.size (stV ⟨ta, tb, tc, td, te, tf, tg, th⟩) (.slice (some ⟨g, o, none⟩) P.length pc) P.length P from ⟨HBX.out.older hb9, HOW.out.older hb9⟩)
   have HB9 := Lib.hid (HBW.out.trans (hb9.mono HBW.out.size))
   have HMX9 := Lib.hid (hmix.out _ hb9)
   clear hw9 hb9 c0 c1 c2 c3 c4 c5 c6 c7 hzb hc1 hc2 hi0 hn1 hc3 hc4 hwi hc5 hc6 HBK hmix HOW HBX HBW
   go_wp2_with (go_at_call 167; refine HMX9.out.mono ?_; rintro e w4 ⟨rfl, hb4⟩; have HX4 := Lib.hid (show Box8 w4 w.heap.size w.heap.size (stV ⟨ta, tb, tc, td, te, tf, tg, th⟩) (.slice (some ⟨g, o, none⟩) P.length pc) P.length P from ⟨HX9.out.1.older hb4, HX9.out.2.older hb4⟩); have HB4 := Lib.hid (HB9.out.trans (hb4.mono HB9.out.size)); have hz4 := HX4.out.1.lt; have d0 : World.cell? w4 ⟨w.heap.size, 0, none⟩ = some (.int .u32 ta) := HX4.out.1.cell (i := 0) rfl; have d1 : World.cell? w4 ⟨w.heap.size, 1, none⟩ = some (.int .u32 tb) := HX4.out.1.cell (i := 1) rfl; have d2 : World.cell? w4 ⟨w.heap.size, 2, none⟩ = some (.int .u32 tc) := HX4.out.1.cell (i := 2) rfl; have d3 : World.cell? w4 ⟨w.heap.size, 3, none⟩ = some (.int .u32 td) := HX4.out.1.cell (i := 3) rfl; have d4 : World.cell? w4 ⟨w.heap.size, 4, none⟩ = some (.int .u32 te) := HX4.out.1.cell (i := 4) rfl; have d5 : World.cell? w4 ⟨w.heap.size, 5, none⟩ = some (.int .u32 tf) := HX4.out.1.cell (i := 5) rfl; have d6 : World.cell? w4 ⟨w.heap.size, 6, none⟩ = some (.int .u32 tg) := HX4.out.1.cell (i := 6) rfl; have d7 : World.cell? w4 ⟨w.heap.size, 7, none⟩ = some (.int .u32 th) := HX4.out.1.cell (i := 7) rfl; have g0 := HX4.out.1.frz 0; have g1 := HX4.out.1.frz 1; have g2 := HX4.out.1.frz 2; have g3 := HX4.out.1.frz 3; have g4 := HX4.out.1.frz 4; have g5 := HX4.out.1.frz 5; have g6 := HX4.out.1.frz 6; have g7 := HX4.out.1.frz 7; clear hb4)
   have HX5 := Lib.hid (HX4.out.setS ⟨na, nb, nc, nd, ne, nf, ng, nh⟩)
   have HB5 := Lib.hid (below_setS (s' := ⟨na, nb, nc, nd, ne, nf, ng, nh⟩) HB4.out (Nat.le_refl _))
   go_roundg (gk - 64)
   case rel => exact ⟨⟨na, nb, nc, nd, ne, nf, ng, nh⟩, i + 64, by go_num, hge, Lib.hid (by have := HI.out; omega), Lib.hid (by have := HQ.out; omega), HX5.out.1, HX5.out.2, Lib.hid (by have h9 := runL_step (mx := mixM) (show 64 ≤ (P.drop i).length by rw [List.length_drop]; omega) HT.out; rw [List.drop_drop] at h9; exact h9.trans HRUN.out), HB5.out⟩
   case measure => have := HQ.out; omega
  ·obtain rfl : i = P.length := by omega
   have HF := Lib.hid (show outM ⟨ta, tb, tc, td, te, tf, tg, th⟩ = sumM mixM m by rw [← HFIN.out, ← HRUN.out, List.drop_length, runL_end (by simp)])
   have HO0 := Lib.hid (OwnWin.nil wr w.heap.size 5 1)
   clear hi
   go_wp2_with fail
   go_loopg [24, 7, 6] 8 (fun gq iv s7 s6 wr => ∃ (k : Nat) (i : Int) (N : Nat) (a : Option Addr) (c : Nat), i = k ∧ k ≤ 8 ∧ Hid (8 ≤ gq + k) ∧ iv = .int .i64 i ∧ s6 = .slice a N c ∧ Hid (N = 4 * k) ∧ OwnWin wr w.heap.size 5 1 (.slice a N c) N (bvals (outK ⟨ta, tb, tc, td, te, tf, tg, th⟩ k)) ∧ Bx wr w.heap.size 155 (stV ⟨ta, tb, tc, td, te, tf, tg, th⟩) ∧ Below w.heap.size w wr)
   case atStart => exact ⟨0, 0, 0, none, 0, rfl, Nat.zero_le _, Lib.hid (by omega), rfl, rfl, Lib.hid rfl, HO0.out, HBX.out, HBW.out⟩
   case round =>
    obtain ⟨k, i, N, ua, uc, hki, hk8, HQ, rfl, rfl, HN, hown, hbx, hbel⟩ := hrel
    clear HO0 HOW HBW HBX c0 c1 c2 c3 c4 c5 c6 c7 hzb
    have HOW := Lib.hid hown
    have HBW := Lib.hid hbel
    have HBX := Lib.hid hbx
    have hNb : N ≤ 40 := by have := HN.out; omega
    clear hown hbel hbx
    rcases (show (k = 0 ∧ i = 0) ∨ (k = 1 ∧ i = 1) ∨ (k = 2 ∧ i = 2) ∨ (k = 3 ∧ i = 3) ∨ (k = 4 ∧ i = 4) ∨ (k = 5 ∧ i = 5) ∨ (k = 6 ∧ i = 6) ∨ (k = 7 ∧ i = 7) ∨ (k = 8 ∧ i = 8) by omega) with ⟨rfl, rfl⟩ | ⟨rfl, rfl⟩ | ⟨rfl, rfl⟩ | ⟨rfl, rfl⟩ | ⟨rfl, rfl⟩ | ⟨rfl, rfl⟩ | ⟨rfl, rfl⟩ | ⟨rfl, rfl⟩ | ⟨rfl, rfl⟩
    ·clear hk8 hki
     have c0 : wr.cell? ⟨w.heap.size, 0, none⟩ = some (.int .u32 ta) := HBX.out.cell (i := 0) rfl
     have hz := HBX.out.lt
     have hbd : Below wr.heap.size wr (wr.drew.alloc (.cells #[.int .u8 (ta / 16777216 % 256), .int .u8 (ta / 65536 % 256), .int .u8 (ta / 256 % 256), .int .u8 (ta % 256)] 5)) := ((Below.refl wr.heap.size wr).drew).alloc (Nat.le_refl _) _
     have HOA := Lib.hid (HOW.out.older hbd)
     have HBA := Lib.hid (HBW.out.trans (hbd.mono HBW.out.size))
     have HXA := Lib.hid (HBX.out.older hbd)
     have HZA := Lib.hid HBA.out.size
     have HSR := Lib.hid (show SrcAt (wr.drew.alloc (.cells #[.int .u8 (ta / 16777216 % 256), .int .u8 (ta / 65536 % 256), .int .u8 (ta / 256 % 256), .int .u8 (ta % 256)] 5)) (.slice (some ⟨wr.heap.size, 0, none⟩) 4 4) 4 [.int .u8 (ta / 16777216 % 256), .int .u8 (ta / 65536 % 256), .int .u8 (ta / 256 % 256), .int .u8 (ta % 256)] from srcMany (heap_alloc_new wr.drew _))
     clear hbd
     go_wp2_with fail
     refine wp_region_held_drew (S := fun w' => w'.cell? ⟨w.heap.size, 0, none⟩ = some (.int .u32 ta)) (by kernel_rfl) (by exact c0) (fun hHeld => ?_)
     refine wpAnyH_take (i := 0) (v := ?_) (by simp only [List.getElem?_toArray, List.getElem?_cons_succ, List.getElem?_cons_zero]; rfl) (by kernel_rfl) (by kernel_rfl) (by kernel_rfl) (by intro _ _ _ h; exact h) (Or.inl ⟨by rfl, ?_⟩) (by assumption) ?_
     rotate_left
     focus (intro wT hT; (try dsimp only at hT); go_simp; try with_reducible rfl)
     try simp only [Act.put, List.setIfInBounds_toArray, List.set_cons_zero, List.set_cons_succ]
     refine wpAnyH_take (i := 1) (v := ?_) (by simp only [List.getElem?_toArray, List.getElem?_cons_succ, List.getElem?_cons_zero]; rfl) (by kernel_rfl) (by kernel_rfl) (by kernel_rfl) (by intro _ _ _ h; exact h) (Or.inl ⟨by rfl, ?_⟩) (by assumption) ?_
     rotate_left
     focus (intro wT hT; (try dsimp only at hT); go_simp; try with_reducible rfl)
     try simp only [Act.put, List.setIfInBounds_toArray, List.set_cons_zero, List.set_cons_succ]
     refine wpAnyH_take (i := 2) (v := ?_) (by simp only [List.getElem?_toArray, List.getElem?_cons_succ, List.getElem?_cons_zero]; rfl) (by kernel_rfl) (by kernel_rfl) (by kernel_rfl) (by intro _ _ _ h; exact h) (Or.inl ⟨by rfl, ?_⟩) (by assumption) ?_
     rotate_left
     focus (intro wT hT; (try dsimp only at hT); go_simp; try with_reducible rfl)
     try simp only [Act.put, List.setIfInBounds_toArray, List.set_cons_zero, List.set_cons_succ]
     refine wpAnyH_take (i := 3) (v := ?_) (by simp only [List.getElem?_toArray, List.getElem?_cons_succ, List.getElem?_cons_zero]; rfl) (by kernel_rfl) (by kernel_rfl) (by kernel_rfl) (by intro _ _ _ h; exact h) (Or.inl ⟨by rfl, ?_⟩) (by assumption) ?_
     rotate_left
     focus (intro wT hT; (try dsimp only at hT); go_simp; try with_reducible rfl)
     try simp only [Act.put, List.setIfInBounds_toArray, List.set_cons_zero, List.set_cons_succ]
     refine wpAnyH_take (i := 4) (v := ?_) (by simp only [List.getElem?_toArray, List.getElem?_cons_succ, List.getElem?_cons_zero]; rfl) (by kernel_rfl) (by kernel_rfl) (by kernel_rfl) (by intro _ _ _ h; exact h) (Or.inl ⟨by rfl, ?_⟩) (by assumption) ?_
     rotate_left
     focus (intro wT hT; (try dsimp only at hT); go_simp; try with_reducible rfl)
     try simp only [Act.put, List.setIfInBounds_toArray, List.set_cons_zero, List.set_cons_succ]
     refine wpAnyH_take (i := 5) (v := ?_) (by simp only [List.getElem?_toArray, List.getElem?_cons_succ, List.getElem?_cons_zero]; rfl) (by kernel_rfl) (by kernel_rfl) (by kernel_rfl) (by intro _ _ _ h; exact h) (Or.inl ⟨by rfl, ?_⟩) (by assumption) ?_
     rotate_left
     focus (intro wT hT; (try dsimp only at hT); go_simp; try with_reducible rfl)
     try simp only [Act.put, List.setIfInBounds_toArray, List.set_cons_zero, List.set_cons_succ]
     refine wpAnyH_take (i := 6) (v := ?_) (by simp only [List.getElem?_toArray, List.getElem?_cons_succ, List.getElem?_cons_zero]; rfl) (by kernel_rfl) (by kernel_rfl) (by kernel_rfl) (by intro _ _ _ h; exact h) (Or.inl ⟨by rfl, ?_⟩) (by assumption) ?_
     rotate_left
     focus (intro wT hT; (try dsimp only at hT); go_simp; try with_reducible rfl)
     try simp only [Act.put, List.setIfInBounds_toArray, List.set_cons_zero, List.set_cons_succ]
     refine wpAnyH_take (i := 7) (v := ?_) (by simp only [List.getElem?_toArray, List.getElem?_cons_succ, List.getElem?_cons_zero]; rfl) (by kernel_rfl) (by kernel_rfl) (by kernel_rfl) (by intro _ _ _ h; exact h) (Or.inl ⟨by rfl, ?_⟩) (by assumption) ?_
     rotate_left
     focus (intro wT hT; (try dsimp only at hT); go_simp; try with_reducible rfl)
     try simp only [Act.put, List.setIfInBounds_toArray, List.set_cons_zero, List.set_cons_succ]
     refine wpAnyH_take (i := 8) (v := ?_) (by simp only [List.getElem?_toArray, List.getElem?_cons_succ, List.getElem?_cons_zero]; rfl) (by kernel_rfl) (by kernel_rfl) (by kernel_rfl) (by intro _ _ _ h; exact h) (Or.inl ⟨by rfl, ?_⟩) (by assumption) ?_
     rotate_left
     focus (intro wT hT; (try dsimp only at hT); go_simp; try with_reducible rfl)
     try simp only [Act.put, List.setIfInBounds_toArray, List.set_cons_zero, List.set_cons_succ]
     refine wpAnyH_take (i := 9) (v := ?_) (by simp only [List.getElem?_toArray, List.getElem?_cons_succ, List.getElem?_cons_zero]; rfl) (by kernel_rfl) (by kernel_rfl) (by kernel_rfl) (by intro _ _ _ h; exact h) (Or.inl ⟨by rfl, ?_⟩) (by assumption) ?_
     rotate_left
     focus (intro wT hT; (try dsimp only at hT); go_simp; try with_reducible rfl)
     try simp only [Act.put, List.setIfInBounds_toArray, List.set_cons_zero, List.set_cons_succ]
     refine wpAnyH_take (i := 10) (v := ?_) (by simp only [List.getElem?_toArray, List.getElem?_cons_succ, List.getElem?_cons_zero]; rfl) (by kernel_rfl) (by kernel_rfl) (by kernel_rfl) (by intro _ _ _ h; exact h) (Or.inl ⟨by rfl, ?_⟩) (by assumption) ?_
     rotate_left
     focus (intro wT hT; (try dsimp only at hT); go_simp; try with_reducible rfl)
     try simp only [Act.put, List.setIfInBounds_toArray, List.set_cons_zero, List.set_cons_succ]
     refine wpAnyH_take (i := 11) (v := ?_) (by simp only [List.getElem?_toArray, List.getElem?_cons_succ, List.getElem?_cons_zero]; rfl) (by kernel_rfl) (by kernel_rfl) (by kernel_rfl) (by intro _ _ _ h; exact h) (Or.inl ⟨by rfl, ?_⟩) (by assumption) ?_
     rotate_left
     focus (intro wT hT; (try dsimp only at hT); go_simp; try with_reducible rfl)
     try simp only [Act.put, List.setIfInBounds_toArray, List.set_cons_zero, List.set_cons_succ]
     refine wpAnyH_take (i := 12) (v := ?_) (by simp only [List.getElem?_toArray, List.getElem?_cons_succ, List.getElem?_cons_zero]; rfl) (by kernel_rfl) (by kernel_rfl) (by kernel_rfl) (by intro _ _ _ h; exact h) (Or.inl ⟨by rfl, ?_⟩) (by assumption) ?_
     rotate_left
     focus (intro wT hT; (try dsimp only at hT); go_simp; try with_reducible rfl)
     try simp only [Act.put, List.setIfInBounds_toArray, List.set_cons_zero, List.set_cons_succ]
     refine wpAnyH_take (i := 13) (v := ?_) (by simp only [List.getElem?_toArray, List.getElem?_cons_succ, List.getElem?_cons_zero]; rfl) (by kernel_rfl) (by kernel_rfl) (by kernel_rfl) (by intro _ _ _ h; exact h) (Or.inl ⟨by rfl, ?_⟩) (by assumption) ?_
     rotate_left
     focus (intro wT hT; (try dsimp only at hT); go_simp; try with_reducible rfl)
     try simp only [Act.put, List.setIfInBounds_toArray, List.set_cons_zero, List.set_cons_succ]
     refine wpAnyH_take (i := 14) (v := ?_) (by simp only [List.getElem?_toArray, List.getElem?_cons_succ, List.getElem?_cons_zero]; rfl) (by kernel_rfl) (by kernel_rfl) (by kernel_rfl) (by intro _ _ _ h; exact h) (Or.inl ⟨by rfl, ?_⟩) (by assumption) ?_
     rotate_left
     focus (intro wT hT; (try dsimp only at hT); go_simp; try with_reducible rfl)
     try simp only [Act.put, List.setIfInBounds_toArray, List.set_cons_zero, List.set_cons_succ]
     refine wpAnyH_take (i := 15) (v := ?_) (by simp only [List.getElem?_toArray, List.getElem?_cons_succ, List.getElem?_cons_zero]; rfl) (by kernel_rfl) (by kernel_rfl) (by kernel_rfl) (by intro _ _ _ h; exact h) (Or.inl ⟨by rfl, ?_⟩) (by assumption) ?_
     rotate_left
     focus (intro wT hT; (try dsimp only at hT); go_simp; try with_reducible rfl)
     try simp only [Act.put, List.setIfInBounds_toArray, List.set_cons_zero, List.set_cons_succ]
     refine wpAnyH_take (i := 16) (v := ?_) (by simp only [List.getElem?_toArray, List.getElem?_cons_succ, List.getElem?_cons_zero]; rfl) (by kernel_rfl) (by kernel_rfl) (by kernel_rfl) (by intro _ _ _ h; exact h) (Or.inl ⟨by rfl, ?_⟩) (by assumption) ?_
     rotate_left
     focus (intro wT hT; (try dsimp only at hT); go_simp; try with_reducible rfl)
     try simp only [Act.put, List.setIfInBounds_toArray, List.set_cons_zero, List.set_cons_succ]
     refine wpAnyH_take (i := 17) (v := ?_) (by simp only [List.getElem?_toArray, List.getElem?_cons_succ, List.getElem?_cons_zero]; rfl) (by kernel_rfl) (by kernel_rfl) (by kernel_rfl) (by intro _ _ _ h; exact h) (Or.inl ⟨by rfl, ?_⟩) (by assumption) ?_
     rotate_left
     focus (intro wT hT; (try dsimp only at hT); go_simp; try with_reducible rfl)
     try simp only [Act.put, List.setIfInBounds_toArray, List.set_cons_zero, List.set_cons_succ]
     refine wpAnyH_take (i := 18) (v := ?_) (by simp only [List.getElem?_toArray, List.getElem?_cons_succ, List.getElem?_cons_zero]; rfl) (by kernel_rfl) (by kernel_rfl) (by kernel_rfl) (by intro _ _ _ h; exact h) (Or.inl ⟨by rfl, ?_⟩) (by assumption) ?_
     rotate_left
     focus (intro wT hT; (try dsimp only at hT); go_simp; try with_reducible rfl)
     try simp only [Act.put, List.setIfInBounds_toArray, List.set_cons_zero, List.set_cons_succ]
     refine wpAnyH_take (i := 19) (v := ?_) (by simp only [List.getElem?_toArray, List.getElem?_cons_succ, List.getElem?_cons_zero]; rfl) (by kernel_rfl) (by kernel_rfl) (by kernel_rfl) (by intro _ _ _ h; exact h) (Or.inl ⟨by rfl, ?_⟩) (by assumption) ?_
     rotate_left
     focus (intro wT hT; (try dsimp only at hT); go_simp; try with_reducible rfl)
     try simp only [Act.put, List.setIfInBounds_toArray, List.set_cons_zero, List.set_cons_succ]
     refine wpAnyH_ready (rs := [20]) (by kernel_rfl) (by simp) (AllReadyH.cons (by simp only [List.getElem?_toArray, List.getElem?_cons_succ, List.getElem?_cons_zero]; rfl) (fun K hK => ?_) AllReadyH.nil)
     go_simp
     refine hK.out _ _ (by exact HXA.out.cell (i := 0) rfl) (fun hHe2 => ?_)
     clear hK K
     try simp only [Act.put, List.setIfInBounds_toArray, List.set_cons_zero, List.set_cons_succ]
     refine wpAnyH_ready (rs := [21]) (by kernel_rfl) (by simp) (AllReadyH.cons (by simp only [List.getElem?_toArray, List.getElem?_cons_succ, List.getElem?_cons_zero]; rfl) (fun K hK => ?_) AllReadyH.nil)
     refine step_appw tyBytes (by rfl) _ _ (by rfl) w.heap.size (.slice ua N uc) N _ (by rfl) HOA.out HZA.out (.slice (some ⟨wr.heap.size, 0, none⟩) 4 4) 4 [.int .u8 (ta / 16777216 % 256), .int .u8 (ta / 65536 % 256), .int .u8 (ta / 256 % 256), .int .u8 (ta % 256)] (by rfl) HSR.out (by rfl) (by simp [Value.oneCell']) (by omega) ?_
     intro v' w2 hown2 hgrow2 hlies2
     obtain ⟨ub, ud, rfl, hud⟩ := hown2.form
     have HBN := Lib.hid (belowK_grown HBA.out hgrow2 HZA.out (fun q hq => (HOA.out.lt q hq).1))
     have hbx2 := HXA.out.touch (Touch.of_grown (S := fun q => (Value.slice ua N uc).ownBlock = some q) hgrow2 (fun k hk => hk)) (fun hq => HXA.out.neOwn HOA.out (by decide) _ hq rfl)
     have HBX2 := Lib.hid hbx2
     refine hK.out _ _ (by exact hbx2.cell (i := 0) rfl) (fun hHe3 => ?_)
     clear hK K
     try simp only [Act.put, List.setIfInBounds_toArray, List.set_cons_zero, List.set_cons_succ]
     refine wpAnyH_take (i := 22) (v := ?_) (by simp only [List.getElem?_toArray, List.getElem?_cons_succ, List.getElem?_cons_zero]; rfl) (by kernel_rfl) (by kernel_rfl) (by kernel_rfl) (by intro _ _ _ h; exact h) (Or.inl ⟨by rfl, ?_⟩) (by assumption) ?_
     rotate_left
     focus (intro wT hT; (try dsimp only at hT); go_simp; try with_reducible rfl)
     try simp only [Act.put, List.setIfInBounds_toArray, List.set_cons_zero, List.set_cons_succ]
     refine wpAnyH_done (by kernel_rfl) ?_ _
     have HON := Lib.hid (show OwnWin w2 w.heap.size 5 1 (.slice ub (N + 4) ud) (N + 4) (bvals (outK ⟨ta, tb, tc, td, te, tf, tg, th⟩ (0 + 1))) by rw [outK_next ⟨ta, tb, tc, td, te, tf, tg, th⟩ 0 (by omega), ← bvals_append, show (stL ⟨ta, tb, tc, td, te, tf, tg, th⟩).getD 0 0 = ta from rfl, word4_vals]; exact hown2)
     clear hown2 hgrow2 hlies2 hbx2
     go_wp2_with fail
     go_roundg (gk - 1)
     case rel => exact ⟨1, 1, N + 4, ub, ud, rfl, by omega, Lib.hid (by have := HQ.out; omega), by go_num, rfl, Lib.hid (by have := HN.out; omega), HON.out, HBX2.out, HBN.out⟩
     case measure => have := HQ.out; omega
    ·clear hk8 hki
     have c1 : wr.cell? ⟨w.heap.size, 1, none⟩ = some (.int .u32 tb) := HBX.out.cell (i := 1) rfl
     have hz := HBX.out.lt
     have hbd : Below wr.heap.size wr (wr.drew.alloc (.cells #[.int .u8 (tb / 16777216 % 256), .int .u8 (tb / 65536 % 256), .int .u8 (tb / 256 % 256), .int .u8 (tb % 256)] 5)) := ((Below.refl wr.heap.size wr).drew).alloc (Nat.le_refl _) _
     have HOA := Lib.hid (HOW.out.older hbd)
     have HBA := Lib.hid (HBW.out.trans (hbd.mono HBW.out.size))
     have HXA := Lib.hid (HBX.out.older hbd)
     have HZA := Lib.hid HBA.out.size
     have HSR := Lib.hid (show SrcAt (wr.drew.alloc (.cells #[.int .u8 (tb / 16777216 % 256), .int .u8 (tb / 65536 % 256), .int .u8 (tb / 256 % 256), .int .u8 (tb % 256)] 5)) (.slice (some ⟨wr.heap.size, 0, none⟩) 4 4) 4 [.int .u8 (tb / 16777216 % 256), .int .u8 (tb / 65536 % 256), .int .u8 (tb / 256 % 256), .int .u8 (tb % 256)] from srcMany (heap_alloc_new wr.drew _))
     clear hbd
     go_wp2_with fail
     refine wp_region_held_drew (S := fun w' => w'.cell? ⟨w.heap.size, 1, none⟩ = some (.int .u32 tb)) (by kernel_rfl) (by exact c1) (fun hHeld => ?_)
     refine wpAnyH_take (i := 0) (v := ?_) (by simp only [List.getElem?_toArray, List.getElem?_cons_succ, List.getElem?_cons_zero]; rfl) (by kernel_rfl) (by kernel_rfl) (by kernel_rfl) (by intro _ _ _ h; exact h) (Or.inl ⟨by rfl, ?_⟩) (by assumption) ?_
     rotate_left
     focus (intro wT hT; (try dsimp only at hT); go_simp; try with_reducible rfl)
     try simp only [Act.put, List.setIfInBounds_toArray, List.set_cons_zero, List.set_cons_succ]
     refine wpAnyH_take (i := 1) (v := ?_) (by simp only [List.getElem?_toArray, List.getElem?_cons_succ, List.getElem?_cons_zero]; rfl) (by kernel_rfl) (by kernel_rfl) (by kernel_rfl) (by intro _ _ _ h; exact h) (Or.inl ⟨by rfl, ?_⟩) (by assumption) ?_
     rotate_left
     focus (intro wT hT; (try dsimp only at hT); go_simp; try with_reducible rfl)
     try simp only [Act.put, List.setIfInBounds_toArray, List.set_cons_zero, List.set_cons_succ]
     refine wpAnyH_take (i := 2) (v := ?_) (by simp only [List.getElem?_toArray, List.getElem?_cons_succ, List.getElem?_cons_zero]; rfl) (by kernel_rfl) (by kernel_rfl) (by kernel_rfl) (by intro _ _ _ h; exact h) (Or.inl ⟨by rfl, ?_⟩) (by assumption) ?_
     rotate_left
     focus (intro wT hT; (try dsimp only at hT); go_simp; try with_reducible rfl)
     try simp only [Act.put, List.setIfInBounds_toArray, List.set_cons_zero, List.set_cons_succ]
     refine wpAnyH_take (i := 3) (v := ?_) (by simp only [List.getElem?_toArray, List.getElem?_cons_succ, List.getElem?_cons_zero]; rfl) (by kernel_rfl) (by kernel_rfl) (by kernel_rfl) (by intro _ _ _ h; exact h) (Or.inl ⟨by rfl, ?_⟩) (by assumption) ?_
     rotate_left
     focus (intro wT hT; (try dsimp only at hT); go_simp; try with_reducible rfl)
     try simp only [Act.put, List.setIfInBounds_toArray, List.set_cons_zero, List.set_cons_succ]
     refine wpAnyH_take (i := 4) (v := ?_) (by simp only [List.getElem?_toArray, List.getElem?_cons_succ, List.getElem?_cons_zero]; rfl) (by kernel_rfl) (by kernel_rfl) (by kernel_rfl) (by intro _ _ _ h; exact h) (Or.inl ⟨by rfl, ?_⟩) (by assumption) ?_
     rotate_left
     focus (intro wT hT; (try dsimp only at hT); go_simp; try with_reducible rfl)
     try simp only [Act.put, List.setIfInBounds_toArray, List.set_cons_zero, List.set_cons_succ]
     refine wpAnyH_take (i := 5) (v := ?_) (by simp only [List.getElem?_toArray, List.getElem?_cons_succ, List.getElem?_cons_zero]; rfl) (by kernel_rfl) (by kernel_rfl) (by kernel_rfl) (by intro _ _ _ h; exact h) (Or.inl ⟨by rfl, ?_⟩) (by assumption) ?_
     rotate_left
     focus (intro wT hT; (try dsimp only at hT); go_simp; try with_reducible rfl)
     try simp only [Act.put, List.setIfInBounds_toArray, List.set_cons_zero, List.set_cons_succ]
     refine wpAnyH_take (i := 6) (v := ?_) (by simp only [List.getElem?_toArray, List.getElem?_cons_succ, List.getElem?_cons_zero]; rfl) (by kernel_rfl) (by kernel_rfl) (by kernel_rfl) (by intro _ _ _ h; exact h) (Or.inl ⟨by rfl, ?_⟩) (by assumption) ?_
     rotate_left
     focus (intro wT hT; (try dsimp only at hT); go_simp; try with_reducible rfl)
     try simp only [Act.put, List.setIfInBounds_toArray, List.set_cons_zero, List.set_cons_succ]
     refine wpAnyH_take (i := 7) (v := ?_) (by simp only [List.getElem?_toArray, List.getElem?_cons_succ, List.getElem?_cons_zero]; rfl) (by kernel_rfl) (by kernel_rfl) (by kernel_rfl) (by intro _ _ _ h; exact h) (Or.inl ⟨by rfl, ?_⟩) (by assumption) ?_
     rotate_left
     focus (intro wT hT; (try dsimp only at hT); go_simp; try with_reducible rfl)
     try simp only [Act.put, List.setIfInBounds_toArray, List.set_cons_zero, List.set_cons_succ]
     refine wpAnyH_take (i := 8) (v := ?_) (by simp only [List.getElem?_toArray, List.getElem?_cons_succ, List.getElem?_cons_zero]; rfl) (by kernel_rfl) (by kernel_rfl) (by kernel_rfl) (by intro _ _ _ h; exact h) (Or.inl ⟨by rfl, ?_⟩) (by assumption) ?_
     rotate_left
     focus (intro wT hT; (try dsimp only at hT); go_simp; try with_reducible rfl)
     try simp only [Act.put, List.setIfInBounds_toArray, List.set_cons_zero, List.set_cons_succ]
     refine wpAnyH_take (i := 9) (v := ?_) (by simp only [List.getElem?_toArray, List.getElem?_cons_succ, List.getElem?_cons_zero]; rfl) (by kernel_rfl) (by kernel_rfl) (by kernel_rfl) (by intro _ _ _ h; exact h) (Or.inl ⟨by rfl, ?_⟩) (by assumption) ?_
     rotate_left
     focus (intro wT hT; (try dsimp only at hT); go_simp; try with_reducible rfl)
     try simp only [Act.put, List.setIfInBounds_toArray, List.set_cons_zero, List.set_cons_succ]
     refine wpAnyH_take (i := 10) (v := ?_) (by simp only [List.getElem?_toArray, List.getElem?_cons_succ, List.getElem?_cons_zero]; rfl) (by kernel_rfl) (by kernel_rfl) (by kernel_rfl) (by intro _ _ _ h; exact h) (Or.inl ⟨by rfl, ?_⟩) (by assumption) ?_
     rotate_left
     focus (intro wT hT; (try dsimp only at hT); go_simp; try with_reducible rfl)
     try simp only [Act.put, List.setIfInBounds_toArray, List.set_cons_zero, List.set_cons_succ]
     refine wpAnyH_take (i := 11) (v := ?_) (by simp only [List.getElem?_toArray, List.getElem?_cons_succ, List.getElem?_cons_zero]; rfl) (by kernel_rfl) (by kernel_rfl) (by kernel_rfl) (by intro _ _ _ h; exact h) (Or.inl ⟨by rfl, ?_⟩) (by assumption) ?_
     rotate_left
     focus (intro wT hT; (try dsimp only at hT); go_simp; try with_reducible rfl)
     try simp only [Act.put, List.setIfInBounds_toArray, List.set_cons_zero, List.set_cons_succ]
     refine wpAnyH_take (i := 12) (v := ?_) (by simp only [List.getElem?_toArray, List.getElem?_cons_succ, List.getElem?_cons_zero]; rfl) (by kernel_rfl) (by kernel_rfl) (by kernel_rfl) (by intro _ _ _ h; exact h) (Or.inl ⟨by rfl, ?_⟩) (by assumption) ?_
     rotate_left
     focus (intro wT hT; (try dsimp only at hT); go_simp; try with_reducible rfl)
     try simp only [Act.put, List.setIfInBounds_toArray, List.set_cons_zero, List.set_cons_succ]
     refine wpAnyH_take (i := 13) (v := ?_) (by simp only [List.getElem?_toArray, List.getElem?_cons_succ, List.getElem?_cons_zero]; rfl) (by kernel_rfl) (by kernel_rfl) (by kernel_rfl) (by intro _ _ _ h; exact h) (Or.inl ⟨by rfl, ?_⟩) (by assumption) ?_
     rotate_left
     focus (intro wT hT; (try dsimp only at hT); go_simp; try with_reducible rfl)
     try simp only [Act.put, List.setIfInBounds_toArray, List.set_cons_zero, List.set_cons_succ]
     refine wpAnyH_take (i := 14) (v := ?_) (by simp only [List.getElem?_toArray, List.getElem?_cons_succ, List.getElem?_cons_zero]; rfl) (by kernel_rfl) (by kernel_rfl) (by kernel_rfl) (by intro _ _ _ h; exact h) (Or.inl ⟨by rfl, ?_⟩) (by assumption) ?_
     rotate_left
     focus (intro wT hT; (try dsimp only at hT); go_simp; try with_reducible rfl)
     try simp only [Act.put, List.setIfInBounds_toArray, List.set_cons_zero, List.set_cons_succ]
     refine wpAnyH_take (i := 15) (v := ?_) (by simp only [List.getElem?_toArray, List.getElem?_cons_succ, List.getElem?_cons_zero]; rfl) (by kernel_rfl) (by kernel_rfl) (by kernel_rfl) (by intro _ _ _ h; exact h) (Or.inl ⟨by rfl, ?_⟩) (by assumption) ?_
     rotate_left
     focus (intro wT hT; (try dsimp only at hT); go_simp; try with_reducible rfl)
     try simp only [Act.put, List.setIfInBounds_toArray, List.set_cons_zero, List.set_cons_succ]
     refine wpAnyH_take (i := 16) (v := ?_) (by simp only [List.getElem?_toArray, List.getElem?_cons_succ, List.getElem?_cons_zero]; rfl) (by kernel_rfl) (by kernel_rfl) (by kernel_rfl) (by intro _ _ _ h; exact h) (Or.inl ⟨by rfl, ?_⟩) (by assumption) ?_
     rotate_left
     focus (intro wT hT; (try dsimp only at hT); go_simp; try with_reducible rfl)
     try simp only [Act.put, List.setIfInBounds_toArray, List.set_cons_zero, List.set_cons_succ]
     refine wpAnyH_take (i := 17) (v := ?_) (by simp only [List.getElem?_toArray, List.getElem?_cons_succ, List.getElem?_cons_zero]; rfl) (by kernel_rfl) (by kernel_rfl) (by kernel_rfl) (by intro _ _ _ h; exact h) (Or.inl ⟨by rfl, ?_⟩) (by assumption) ?_
     rotate_left
     focus (intro wT hT; (try dsimp only at hT); go_simp; try with_reducible rfl)
     try simp only [Act.put, List.setIfInBounds_toArray, List.set_cons_zero, List.set_cons_succ]
     refine wpAnyH_take (i := 18) (v := ?_) (by simp only [List.getElem?_toArray, List.getElem?_cons_succ, List.getElem?_cons_zero]; rfl) (by kernel_rfl) (by kernel_rfl) (by kernel_rfl) (by intro _ _ _ h; exact h) (Or.inl ⟨by rfl, ?_⟩) (by assumption) ?_
     rotate_left
     focus (intro wT hT; (try dsimp only at hT); go_simp; try with_reducible rfl)
     try simp only [Act.put, List.setIfInBounds_toArray, List.set_cons_zero, List.set_cons_succ]
     refine wpAnyH_take (i := 19) (v := ?_) (by simp only [List.getElem?_toArray, List.getElem?_cons_succ, List.getElem?_cons_zero]; rfl) (by kernel_rfl) (by kernel_rfl) (by kernel_rfl) (by intro _ _ _ h; exact h) (Or.inl ⟨by rfl, ?_⟩) (by assumption) ?_
     rotate_left
     focus (intro wT hT; (try dsimp only at hT); go_simp; try with_reducible rfl)
     try simp only [Act.put, List.setIfInBounds_toArray, List.set_cons_zero, List.set_cons_succ]
     refine wpAnyH_ready (rs := [20]) (by kernel_rfl) (by simp) (AllReadyH.cons (by simp only [List.getElem?_toArray, List.getElem?_cons_succ, List.getElem?_cons_zero]; rfl) (fun K hK => ?_) AllReadyH.nil)
     go_simp
     refine hK.out _ _ (by exact HXA.out.cell (i := 1) rfl) (fun hHe2 => ?_)
     clear hK K
     try simp only [Act.put, List.setIfInBounds_toArray, List.set_cons_zero, List.set_cons_succ]
     refine wpAnyH_ready (rs := [21]) (by kernel_rfl) (by simp) (AllReadyH.cons (by simp only [List.getElem?_toArray, List.getElem?_cons_succ, List.getElem?_cons_zero]; rfl) (fun K hK => ?_) AllReadyH.nil)
     refine step_appw tyBytes (by rfl) _ _ (by rfl) w.heap.size (.slice ua N uc) N _ (by rfl) HOA.out HZA.out (.slice (some ⟨wr.heap.size, 0, none⟩) 4 4) 4 [.int .u8 (tb / 16777216 % 256), .int .u8 (tb / 65536 % 256), .int .u8 (tb / 256 % 256), .int .u8 (tb % 256)] (by rfl) HSR.out (by rfl) (by simp [Value.oneCell']) (by omega) ?_
     intro v' w2 hown2 hgrow2 hlies2
     obtain ⟨ub, ud, rfl, hud⟩ := hown2.form
     have HBN := Lib.hid (belowK_grown HBA.out hgrow2 HZA.out (fun q hq => (HOA.out.lt q hq).1))
     have hbx2 := HXA.out.touch (Touch.of_grown (S := fun q => (Value.slice ua N uc).ownBlock = some q) hgrow2 (fun k hk => hk)) (fun hq => HXA.out.neOwn HOA.out (by decide) _ hq rfl)
     have HBX2 := Lib.hid hbx2
     refine hK.out _ _ (by exact hbx2.cell (i := 1) rfl) (fun hHe3 => ?_)
     clear hK K
     try simp only [Act.put, List.setIfInBounds_toArray, List.set_cons_zero, List.set_cons_succ]
     refine wpAnyH_take (i := 22) (v := ?_) (by simp only [List.getElem?_toArray, List.getElem?_cons_succ, List.getElem?_cons_zero]; rfl) (by kernel_rfl) (by kernel_rfl) (by kernel_rfl) (by intro _ _ _ h; exact h) (Or.inl ⟨by rfl, ?_⟩) (by assumption) ?_
     rotate_left
     focus (intro wT hT; (try dsimp only at hT); go_simp; try with_reducible rfl)
     try simp only [Act.put, List.setIfInBounds_toArray, List.set_cons_zero, List.set_cons_succ]
     refine wpAnyH_done (by kernel_rfl) ?_ _
     have HON := Lib.hid (show OwnWin w2 w.heap.size 5 1 (.slice ub (N + 4) ud) (N + 4) (bvals (outK ⟨ta, tb, tc, td, te, tf, tg, th⟩ (1 + 1))) by rw [outK_next ⟨ta, tb, tc, td, te, tf, tg, th⟩ 1 (by omega), ← bvals_append, show (stL ⟨ta, tb, tc, td, te, tf, tg, th⟩).getD 1 0 = tb from rfl, word4_vals]; exact hown2)
     clear hown2 hgrow2 hlies2 hbx2
     go_wp2_with fail
     go_roundg (gk - 1)
     case rel => exact ⟨2, 2, N + 4, ub, ud, rfl, by omega, Lib.hid (by have := HQ.out; omega), by go_num, rfl, Lib.hid (by have := HN.out; omega), HON.out, HBX2.out, HBN.out⟩
     case measure => have := HQ.out; omega
    ·clear hk8 hki
     have c2 : wr.cell? ⟨w.heap.size, 2, none⟩ = some (.int .u32 tc) := HBX.out.cell (i := 2) rfl
     have hz := HBX.out.lt
     have hbd : Below wr.heap.size wr (wr.drew.alloc (.cells #[.int .u8 (tc / 16777216 % 256), .int .u8 (tc / 65536 % 256), .int .u8 (tc / 256 % 256), .int .u8 (tc % 256)] 5)) := ((Below.refl wr.heap.size wr).drew).alloc (Nat.le_refl _) _
     have HOA := Lib.hid (HOW.out.older hbd)
     have HBA := Lib.hid (HBW.out.trans (hbd.mono HBW.out.size))
     have HXA := Lib.hid (HBX.out.older hbd)
     have HZA := Lib.hid HBA.out.size
     have HSR := Lib.hid (show SrcAt (wr.drew.alloc (.cells #[.int .u8 (tc / 16777216 % 256), .int .u8 (tc / 65536 % 256), .int .u8 (tc / 256 % 256), .int .u8 (tc % 256)] 5)) (.slice (some ⟨wr.heap.size, 0, none⟩) 4 4) 4 [.int .u8 (tc / 16777216 % 256), .int .u8 (tc / 65536 % 256), .int .u8 (tc / 256 % 256), .int .u8 (tc % 256)] from srcMany (heap_alloc_new wr.drew _))
     clear hbd
     go_wp2_with fail
     refine wp_region_held_drew (S := fun w' => w'.cell? ⟨w.heap.size, 2, none⟩ = some (.int .u32 tc)) (by kernel_rfl) (by exact c2) (fun hHeld => ?_)
     refine wpAnyH_take (i := 0) (v := ?_) (by simp only [List.getElem?_toArray, List.getElem?_cons_succ, List.getElem?_cons_zero]; rfl) (by kernel_rfl) (by kernel_rfl) (by kernel_rfl) (by intro _ _ _ h; exact h) (Or.inl ⟨by rfl, ?_⟩) (by assumption) ?_
     rotate_left
     focus (intro wT hT; (try dsimp only at hT); go_simp; try with_reducible rfl)
     try simp only [Act.put, List.setIfInBounds_toArray, List.set_cons_zero, List.set_cons_succ]
     refine wpAnyH_take (i := 1) (v := ?_) (by simp only [List.getElem?_toArray, List.getElem?_cons_succ, List.getElem?_cons_zero]; rfl) (by kernel_rfl) (by kernel_rfl) (by kernel_rfl) (by intro _ _ _ h; exact h) (Or.inl ⟨by rfl, ?_⟩) (by assumption) ?_
     rotate_left
     focus (intro wT hT; (try dsimp only at hT); go_simp; try with_reducible rfl)
     try simp only [Act.put, List.setIfInBounds_toArray, List.set_cons_zero, List.set_cons_succ]
     refine wpAnyH_take (i := 2) (v := ?_) (by simp only [List.getElem?_toArray, List.getElem?_cons_succ, List.getElem?_cons_zero]; rfl) (by kernel_rfl) (by kernel_rfl) (by kernel_rfl) (by intro _ _ _ h; exact h) (Or.inl ⟨by rfl, ?_⟩) (by assumption) ?_
     rotate_left
     focus (intro wT hT; (try dsimp only at hT); go_simp; try with_reducible rfl)
     try simp only [Act.put, List.setIfInBounds_toArray, List.set_cons_zero, List.set_cons_succ]
     refine wpAnyH_take (i := 3) (v := ?_) (by simp only [List.getElem?_toArray, List.getElem?_cons_succ, List.getElem?_cons_zero]; rfl) (by kernel_rfl) (by kernel_rfl) (by kernel_rfl) (by intro _ _ _ h; exact h) (Or.inl ⟨by rfl, ?_⟩) (by assumption) ?_
     rotate_left
     focus (intro wT hT; (try dsimp only at hT); go_simp; try with_reducible rfl)
     try simp only [Act.put, List.setIfInBounds_toArray, List.set_cons_zero, List.set_cons_succ]
     refine wpAnyH_take (i := 4) (v := ?_) (by simp only [List.getElem?_toArray, List.getElem?_cons_succ, List.getElem?_cons_zero]; rfl) (by kernel_rfl) (by kernel_rfl) (by kernel_rfl) (by intro _ _ _ h; exact h) (Or.inl ⟨by rfl, ?_⟩) (by assumption) ?_
     rotate_left
     focus (intro wT hT; (try dsimp only at hT); go_simp; try with_reducible rfl)
     try simp only [Act.put, List.setIfInBounds_toArray, List.set_cons_zero, List.set_cons_succ]
     refine wpAnyH_take (i := 5) (v := ?_) (by simp only [List.getElem?_toArray, List.getElem?_cons_succ, List.getElem?_cons_zero]; rfl) (by kernel_rfl) (by kernel_rfl) (by kernel_rfl) (by intro _ _ _ h; exact h) (Or.inl ⟨by rfl, ?_⟩) (by assumption) ?_
     rotate_left
     focus (intro wT hT; (try dsimp only at hT); go_simp; try with_reducible rfl)
     try simp only [Act.put, List.setIfInBounds_toArray, List.set_cons_zero, List.set_cons_succ]
     refine wpAnyH_take (i := 6) (v := ?_) (by simp only [List.getElem?_toArray, List.getElem?_cons_succ, List.getElem?_cons_zero]; rfl) (by kernel_rfl) (by kernel_rfl) (by kernel_rfl) (by intro _ _ _ h; exact h) (Or.inl ⟨by rfl, ?_⟩) (by assumption) ?_
     rotate_left
     focus (intro wT hT; (try dsimp only at hT); go_simp; try with_reducible rfl)
     try simp only [Act.put, List.setIfInBounds_toArray, List.set_cons_zero, List.set_cons_succ]
     refine wpAnyH_take (i := 7) (v := ?_) (by simp only [List.getElem?_toArray, List.getElem?_cons_succ, List.getElem?_cons_zero]; rfl) (by kernel_rfl) (by kernel_rfl) (by kernel_rfl) (by intro _ _ _ h; exact h) (Or.inl ⟨by rfl, ?_⟩) (by assumption) ?_
     rotate_left
     focus (intro wT hT; (try dsimp only at hT); go_simp; try with_reducible rfl)
     try simp only [Act.put, List.setIfInBounds_toArray, List.set_cons_zero, List.set_cons_succ]
     refine wpAnyH_take (i := 8) (v := ?_) (by simp only [List.getElem?_toArray, List.getElem?_cons_succ, List.getElem?_cons_zero]; rfl) (by kernel_rfl) (by kernel_rfl) (by kernel_rfl) (by intro _ _ _ h; exact h) (Or.inl ⟨by rfl, ?_⟩) (by assumption) ?_
     rotate_left
     focus (intro wT hT; (try dsimp only at hT); go_simp; try with_reducible rfl)
     try simp only [Act.put, List.setIfInBounds_toArray, List.set_cons_zero, List.set_cons_succ]
     refine wpAnyH_take (i := 9) (v := ?_) (by simp only [List.getElem?_toArray, List.getElem?_cons_succ, List.getElem?_cons_zero]; rfl) (by kernel_rfl) (by kernel_rfl) (by kernel_rfl) (by intro _ _ _ h; exact h) (Or.inl ⟨by rfl, ?_⟩) (by assumption) ?_
     rotate_left
     focus (intro wT hT; (try dsimp only at hT); go_simp; try with_reducible rfl)
     try simp only [Act.put, List.setIfInBounds_toArray, List.set_cons_zero, List.set_cons_succ]
     refine wpAnyH_take (i := 10) (v := ?_) (by simp only [List.getElem?_toArray, List.getElem?_cons_succ, List.getElem?_cons_zero]; rfl) (by kernel_rfl) (by kernel_rfl) (by kernel_rfl) (by intro _ _ _ h; exact h) (Or.inl ⟨by rfl, ?_⟩) (by assumption) ?_
     rotate_left
     focus (intro wT hT; (try dsimp only at hT); go_simp; try with_reducible rfl)
     try simp only [Act.put, List.setIfInBounds_toArray, List.set_cons_zero, List.set_cons_succ]
     refine wpAnyH_take (i := 11) (v := ?_) (by simp only [List.getElem?_toArray, List.getElem?_cons_succ, List.getElem?_cons_zero]; rfl) (by kernel_rfl) (by kernel_rfl) (by kernel_rfl) (by intro _ _ _ h; exact h) (Or.inl ⟨by rfl, ?_⟩) (by assumption) ?_
     rotate_left
     focus (intro wT hT; (try dsimp only at hT); go_simp; try with_reducible rfl)
     try simp only [Act.put, List.setIfInBounds_toArray, List.set_cons_zero, List.set_cons_succ]
     refine wpAnyH_take (i := 12) (v := ?_) (by simp only [List.getElem?_toArray, List.getElem?_cons_succ, List.getElem?_cons_zero]; rfl) (by kernel_rfl) (by kernel_rfl) (by kernel_rfl) (by intro _ _ _ h; exact h) (Or.inl ⟨by rfl, ?_⟩) (by assumption) ?_
     rotate_left
     focus (intro wT hT; (try dsimp only at hT); go_simp; try with_reducible rfl)
     try simp only [Act.put, List.setIfInBounds_toArray, List.set_cons_zero, List.set_cons_succ]
     refine wpAnyH_take (i := 13) (v := ?_) (by simp only [List.getElem?_toArray, List.getElem?_cons_succ, List.getElem?_cons_zero]; rfl) (by kernel_rfl) (by kernel_rfl) (by kernel_rfl) (by intro _ _ _ h; exact h) (Or.inl ⟨by rfl, ?_⟩) (by assumption) ?_
     rotate_left
     focus (intro wT hT; (try dsimp only at hT); go_simp; try with_reducible rfl)
     try simp only [Act.put, List.setIfInBounds_toArray, List.set_cons_zero, List.set_cons_succ]
     refine wpAnyH_take (i := 14) (v := ?_) (by simp only [List.getElem?_toArray, List.getElem?_cons_succ, List.getElem?_cons_zero]; rfl) (by kernel_rfl) (by kernel_rfl) (by kernel_rfl) (by intro _ _ _ h; exact h) (Or.inl ⟨by rfl, ?_⟩) (by assumption) ?_
     rotate_left
     focus (intro wT hT; (try dsimp only at hT); go_simp; try with_reducible rfl)
     try simp only [Act.put, List.setIfInBounds_toArray, List.set_cons_zero, List.set_cons_succ]
     refine wpAnyH_take (i := 15) (v := ?_) (by simp only [List.getElem?_toArray, List.getElem?_cons_succ, List.getElem?_cons_zero]; rfl) (by kernel_rfl) (by kernel_rfl) (by kernel_rfl) (by intro _ _ _ h; exact h) (Or.inl ⟨by rfl, ?_⟩) (by assumption) ?_
     rotate_left
     focus (intro wT hT; (try dsimp only at hT); go_simp; try with_reducible rfl)
     try simp only [Act.put, List.setIfInBounds_toArray, List.set_cons_zero, List.set_cons_succ]
     refine wpAnyH_take (i := 16) (v := ?_) (by simp only [List.getElem?_toArray, List.getElem?_cons_succ, List.getElem?_cons_zero]; rfl) (by kernel_rfl) (by kernel_rfl) (by kernel_rfl) (by intro _ _ _ h; exact h) (Or.inl ⟨by rfl, ?_⟩) (by assumption) ?_
     rotate_left
     focus (intro wT hT; (try dsimp only at hT); go_simp; try with_reducible rfl)
     try simp only [Act.put, List.setIfInBounds_toArray, List.set_cons_zero, List.set_cons_succ]
     refine wpAnyH_take (i := 17) (v := ?_) (by simp only [List.getElem?_toArray, List.getElem?_cons_succ, List.getElem?_cons_zero]; rfl) (by kernel_rfl) (by kernel_rfl) (by kernel_rfl) (by intro _ _ _ h; exact h) (Or.inl ⟨by rfl, ?_⟩) (by assumption) ?_
     rotate_left
     focus (intro wT hT; (try dsimp only at hT); go_simp; try with_reducible rfl)
     try simp only [Act.put, List.setIfInBounds_toArray, List.set_cons_zero, List.set_cons_succ]
     refine wpAnyH_take (i := 18) (v := ?_) (by simp only [List.getElem?_toArray, List.getElem?_cons_succ, List.getElem?_cons_zero]; rfl) (by kernel_rfl) (by kernel_rfl) (by kernel_rfl) (by intro _ _ _ h; exact h) (Or.inl ⟨by rfl, ?_⟩) (by assumption) ?_
     rotate_left
     focus (intro wT hT; (try dsimp only at hT); go_simp; try with_reducible rfl)
     try simp only [Act.put, List.setIfInBounds_toArray, List.set_cons_zero, List.set_cons_succ]
     refine wpAnyH_take (i := 19) (v := ?_) (by simp only [List.getElem?_toArray, List.getElem?_cons_succ, List.getElem?_cons_zero]; rfl) (by kernel_rfl) (by kernel_rfl) (by kernel_rfl) (by intro _ _ _ h; exact h) (Or.inl ⟨by rfl, ?_⟩) (by assumption) ?_
     rotate_left
     focus (intro wT hT; (try dsimp only at hT); go_simp; try with_reducible rfl)
     try simp only [Act.put, List.setIfInBounds_toArray, List.set_cons_zero, List.set_cons_succ]
     refine wpAnyH_ready (rs := [20]) (by kernel_rfl) (by simp) (AllReadyH.cons (by simp only [List.getElem?_toArray, List.getElem?_cons_succ, List.getElem?_cons_zero]; rfl) (fun K hK => ?_) AllReadyH.nil)
     go_simp
     refine hK.out _ _ (by exact HXA.out.cell (i := 2) rfl) (fun hHe2 => ?_)
     clear hK K
     try simp only [Act.put, List.setIfInBounds_toArray, List.set_cons_zero, List.set_cons_succ]
     refine wpAnyH_ready (rs := [21]) (by kernel_rfl) (by simp) (AllReadyH.cons (by simp only [List.getElem?_toArray, List.getElem?_cons_succ, List.getElem?_cons_zero]; rfl) (fun K hK => ?_) AllReadyH.nil)
     refine step_appw tyBytes (by rfl) _ _ (by rfl) w.heap.size (.slice ua N uc) N _ (by rfl) HOA.out HZA.out (.slice (some ⟨wr.heap.size, 0, none⟩) 4 4) 4 [.int .u8 (tc / 16777216 % 256), .int .u8 (tc / 65536 % 256), .int .u8 (tc / 256 % 256), .int .u8 (tc % 256)] (by rfl) HSR.out (by rfl) (by simp [Value.oneCell']) (by omega) ?_
     intro v' w2 hown2 hgrow2 hlies2
     obtain ⟨ub, ud, rfl, hud⟩ := hown2.form
     have HBN := Lib.hid (belowK_grown HBA.out hgrow2 HZA.out (fun q hq => (HOA.out.lt q hq).1))
     have hbx2 := HXA.out.touch (Touch.of_grown (S := fun q => (Value.slice ua N uc).ownBlock = some q) hgrow2 (fun k hk => hk)) (fun hq => HXA.out.neOwn HOA.out (by decide) _ hq rfl)
     have HBX2 := Lib.hid hbx2
     refine hK.out _ _ (by exact hbx2.cell (i := 2) rfl) (fun hHe3 => ?_)
     clear hK K
     try simp only [Act.put, List.setIfInBounds_toArray, List.set_cons_zero, List.set_cons_succ]
     refine wpAnyH_take (i := 22) (v := ?_) (by simp only [List.getElem?_toArray, List.getElem?_cons_succ, List.getElem?_cons_zero]; rfl) (by kernel_rfl) (by kernel_rfl) (by kernel_rfl) (by intro _ _ _ h; exact h) (Or.inl ⟨by rfl, ?_⟩) (by assumption) ?_
     rotate_left
     focus (intro wT hT; (try dsimp only at hT); go_simp; try with_reducible rfl)
     try simp only [Act.put, List.setIfInBounds_toArray, List.set_cons_zero, List.set_cons_succ]
     refine wpAnyH_done (by kernel_rfl) ?_ _
     have HON := Lib.hid (show OwnWin w2 w.heap.size 5 1 (.slice ub (N + 4) ud) (N + 4) (bvals (outK ⟨ta, tb, tc, td, te, tf, tg, th⟩ (2 + 1))) by rw [outK_next ⟨ta, tb, tc, td, te, tf, tg, th⟩ 2 (by omega), ← bvals_append, show (stL ⟨ta, tb, tc, td, te, tf, tg, th⟩).getD 2 0 = tc from rfl, word4_vals]; exact hown2)
     clear hown2 hgrow2 hlies2 hbx2
     go_wp2_with fail
     go_roundg (gk - 1)
     case rel => exact ⟨3, 3, N + 4, ub, ud, rfl, by omega, Lib.hid (by have := HQ.out; omega), by go_num, rfl, Lib.hid (by have := HN.out; omega), HON.out, HBX2.out, HBN.out⟩
     case measure => have := HQ.out; omega
    ·clear hk8 hki
     have c3 : wr.cell? ⟨w.heap.size, 3, none⟩ = some (.int .u32 td) := HBX.out.cell (i := 3) rfl
     have hz := HBX.out.lt
     have hbd : Below wr.heap.size wr (wr.drew.alloc (.cells #[.int .u8 (td / 16777216 % 256), .int .u8 (td / 65536 % 256), .int .u8 (td / 256 % 256), .int .u8 (td % 256)] 5)) := ((Below.refl wr.heap.size wr).drew).alloc (Nat.le_refl _) _
     have HOA := Lib.hid (HOW.out.older hbd)
     have HBA := Lib.hid (HBW.out.trans (hbd.mono HBW.out.size))
     have HXA := Lib.hid (HBX.out.older hbd)
     have HZA := Lib.hid HBA.out.size
     have HSR := Lib.hid (show SrcAt (wr.drew.alloc (.cells #[.int .u8 (td / 16777216 % 256), .int .u8 (td / 65536 % 256), .int .u8 (td / 256 % 256), .int .u8 (td % 256)] 5)) (.slice (some ⟨wr.heap.size, 0, none⟩) 4 4) 4 [.int .u8 (td / 16777216 % 256), .int .u8 (td / 65536 % 256), .int .u8 (td / 256 % 256), .int .u8 (td % 256)] from srcMany (heap_alloc_new wr.drew _))
     clear hbd
     go_wp2_with fail
     refine wp_region_held_drew (S := fun w' => w'.cell? ⟨w.heap.size, 3, none⟩ = some (.int .u32 td)) (by kernel_rfl) (by exact c3) (fun hHeld => ?_)
     refine wpAnyH_take (i := 0) (v := ?_) (by simp only [List.getElem?_toArray, List.getElem?_cons_succ, List.getElem?_cons_zero]; rfl) (by kernel_rfl) (by kernel_rfl) (by kernel_rfl) (by intro _ _ _ h; exact h) (Or.inl ⟨by rfl, ?_⟩) (by assumption) ?_
     rotate_left
     focus (intro wT hT; (try dsimp only at hT); go_simp; try with_reducible rfl)
     try simp only [Act.put, List.setIfInBounds_toArray, List.set_cons_zero, List.set_cons_succ]
     refine wpAnyH_take (i := 1) (v := ?_) (by simp only [List.getElem?_toArray, List.getElem?_cons_succ, List.getElem?_cons_zero]; rfl) (by kernel_rfl) (by kernel_rfl) (by kernel_rfl) (by intro _ _ _ h; exact h) (Or.inl ⟨by rfl, ?_⟩) (by assumption) ?_
     rotate_left
     focus (intro wT hT; (try dsimp only at hT); go_simp; try with_reducible rfl)
     try simp only [Act.put, List.setIfInBounds_toArray, List.set_cons_zero, List.set_cons_succ]
     refine wpAnyH_take (i := 2) (v := ?_) (by simp only [List.getElem?_toArray, List.getElem?_cons_succ, List.getElem?_cons_zero]; rfl) (by kernel_rfl) (by kernel_rfl) (by kernel_rfl) (by intro _ _ _ h; exact h) (Or.inl ⟨by rfl, ?_⟩) (by assumption) ?_
     rotate_left
     focus (intro wT hT; (try dsimp only at hT); go_simp; try with_reducible rfl)
     try simp only [Act.put, List.setIfInBounds_toArray, List.set_cons_zero, List.set_cons_succ]
     refine wpAnyH_take (i := 3) (v := ?_) (by simp only [List.getElem?_toArray, List.getElem?_cons_succ, List.getElem?_cons_zero]; rfl) (by kernel_rfl) (by kernel_rfl) (by kernel_rfl) (by intro _ _ _ h; exact h) (Or.inl ⟨by rfl, ?_⟩) (by assumption) ?_
     rotate_left
     focus (intro wT hT; (try dsimp only at hT); go_simp; try with_reducible rfl)
     try simp only [Act.put, List.setIfInBounds_toArray, List.set_cons_zero, List.set_cons_succ]
     refine wpAnyH_take (i := 4) (v := ?_) (by simp only [List.getElem?_toArray, List.getElem?_cons_succ, List.getElem?_cons_zero]; rfl) (by kernel_rfl) (by kernel_rfl) (by kernel_rfl) (by intro _ _ _ h; exact h) (Or.inl ⟨by rfl, ?_⟩) (by assumption) ?_
     rotate_left
     focus (intro wT hT; (try dsimp only at hT); go_simp; try with_reducible rfl)
     try simp only [Act.put, List.setIfInBounds_toArray, List.set_cons_zero, List.set_cons_succ]
     refine wpAnyH_take (i := 5) (v := ?_) (by simp only [List.getElem?_toArray, List.getElem?_cons_succ, List.getElem?_cons_zero]; rfl) (by kernel_rfl) (by kernel_rfl) (by kernel_rfl) (by intro _ _ _ h; exact h) (Or.inl ⟨by rfl, ?_⟩) (by assumption) ?_
     rotate_left
     focus (intro wT hT; (try dsimp only at hT); go_simp; try with_reducible rfl)
     try simp only [Act.put, List.setIfInBounds_toArray, List.set_cons_zero, List.set_cons_succ]
     refine wpAnyH_take (i := 6) (v := ?_) (by simp only [List.getElem?_toArray, List.getElem?_cons_succ, List.getElem?_cons_zero]; rfl) (by kernel_rfl) (by kernel_rfl) (by kernel_rfl) (by intro _ _ _ h; exact h) (Or.inl ⟨by rfl, ?_⟩) (by assumption) ?_
     rotate_left
     focus (intro wT hT; (try dsimp only at hT); go_simp; try with_reducible rfl)
     try simp only [Act.put, List.setIfInBounds_toArray, List.set_cons_zero, List.set_cons_succ]
     refine wpAnyH_take (i := 7) (v := ?_) (by simp only [List.getElem?_toArray, List.getElem?_cons_succ, List.getElem?_cons_zero]; rfl) (by kernel_rfl) (by kernel_rfl) (by kernel_rfl) (by intro _ _ _ h; exact h) (Or.inl ⟨by rfl, ?_⟩) (by assumption) ?_
     rotate_left
     focus (intro wT hT; (try dsimp only at hT); go_simp; try with_reducible rfl)
     try simp only [Act.put, List.setIfInBounds_toArray, List.set_cons_zero, List.set_cons_succ]
     refine wpAnyH_take (i := 8) (v := ?_) (by simp only [List.getElem?_toArray, List.getElem?_cons_succ, List.getElem?_cons_zero]; rfl) (by kernel_rfl) (by kernel_rfl) (by kernel_rfl) (by intro _ _ _ h; exact h) (Or.inl ⟨by rfl, ?_⟩) (by assumption) ?_
     rotate_left
     focus (intro wT hT; (try dsimp only at hT); go_simp; try with_reducible rfl)
     try simp only [Act.put, List.setIfInBounds_toArray, List.set_cons_zero, List.set_cons_succ]
     refine wpAnyH_take (i := 9) (v := ?_) (by simp only [List.getElem?_toArray, List.getElem?_cons_succ, List.getElem?_cons_zero]; rfl) (by kernel_rfl) (by kernel_rfl) (by kernel_rfl) (by intro _ _ _ h; exact h) (Or.inl ⟨by rfl, ?_⟩) (by assumption) ?_
     rotate_left
     focus (intro wT hT; (try dsimp only at hT); go_simp; try with_reducible rfl)
     try simp only [Act.put, List.setIfInBounds_toArray, List.set_cons_zero, List.set_cons_succ]
     refine wpAnyH_take (i := 10) (v := ?_) (by simp only [List.getElem?_toArray, List.getElem?_cons_succ, List.getElem?_cons_zero]; rfl) (by kernel_rfl) (by kernel_rfl) (by kernel_rfl) (by intro _ _ _ h; exact h) (Or.inl ⟨by rfl, ?_⟩) (by assumption) ?_
     rotate_left
     focus (intro wT hT; (try dsimp only at hT); go_simp; try with_reducible rfl)
     try simp only [Act.put, List.setIfInBounds_toArray, List.set_cons_zero, List.set_cons_succ]
     refine wpAnyH_take (i := 11) (v := ?_) (by simp only [List.getElem?_toArray, List.getElem?_cons_succ, List.getElem?_cons_zero]; rfl) (by kernel_rfl) (by kernel_rfl) (by kernel_rfl) (by intro _ _ _ h; exact h) (Or.inl ⟨by rfl, ?_⟩) (by assumption) ?_
     rotate_left
     focus (intro wT hT; (try dsimp only at hT); go_simp; try with_reducible rfl)
     try simp only [Act.put, List.setIfInBounds_toArray, List.set_cons_zero, List.set_cons_succ]
     refine wpAnyH_take (i := 12) (v := ?_) (by simp only [List.getElem?_toArray, List.getElem?_cons_succ, List.getElem?_cons_zero]; rfl) (by kernel_rfl) (by kernel_rfl) (by kernel_rfl) (by intro _ _ _ h; exact h) (Or.inl ⟨by rfl, ?_⟩) (by assumption) ?_
     rotate_left
     focus (intro wT hT; (try dsimp only at hT); go_simp; try with_reducible rfl)
     try simp only [Act.put, List.setIfInBounds_toArray, List.set_cons_zero, List.set_cons_succ]
     refine wpAnyH_take (i := 13) (v := ?_) (by simp only [List.getElem?_toArray, List.getElem?_cons_succ, List.getElem?_cons_zero]; rfl) (by kernel_rfl) (by kernel_rfl) (by kernel_rfl) (by intro _ _ _ h; exact h) (Or.inl ⟨by rfl, ?_⟩) (by assumption) ?_
     rotate_left
     focus (intro wT hT; (try dsimp only at hT); go_simp; try with_reducible rfl)
     try simp only [Act.put, List.setIfInBounds_toArray, List.set_cons_zero, List.set_cons_succ]
     refine wpAnyH_take (i := 14) (v := ?_) (by simp only [List.getElem?_toArray, List.getElem?_cons_succ, List.getElem?_cons_zero]; rfl) (by kernel_rfl) (by kernel_rfl) (by kernel_rfl) (by intro _ _ _ h; exact h) (Or.inl ⟨by rfl, ?_⟩) (by assumption) ?_
     rotate_left
     focus (intro wT hT; (try dsimp only at hT); go_simp; try with_reducible rfl)
     try simp only [Act.put, List.setIfInBounds_toArray, List.set_cons_zero, List.set_cons_succ]
     refine wpAnyH_take (i := 15) (v := ?_) (by simp only [List.getElem?_toArray, List.getElem?_cons_succ, List.getElem?_cons_zero]; rfl) (by kernel_rfl) (by kernel_rfl) (by kernel_rfl) (by intro _ _ _ h; exact h) (Or.inl ⟨by rfl, ?_⟩) (by assumption) ?_
     rotate_left
     focus (intro wT hT; (try dsimp only at hT); go_simp; try with_reducible rfl)
     try simp only [Act.put, List.setIfInBounds_toArray, List.set_cons_zero, List.set_cons_succ]
     refine wpAnyH_take (i := 16) (v := ?_) (by simp only [List.getElem?_toArray, List.getElem?_cons_succ, List.getElem?_cons_zero]; rfl) (by kernel_rfl) (by kernel_rfl) (by kernel_rfl) (by intro _ _ _ h; exact h) (Or.inl ⟨by rfl, ?_⟩) (by assumption) ?_
     rotate_left
     focus (intro wT hT; (try dsimp only at hT); go_simp; try with_reducible rfl)
     try simp only [Act.put, List.setIfInBounds_toArray, List.set_cons_zero, List.set_cons_succ]
     refine wpAnyH_take (i := 17) (v := ?_) (by simp only [List.getElem?_toArray, List.getElem?_cons_succ, List.getElem?_cons_zero]; rfl) (by kernel_rfl) (by kernel_rfl) (by kernel_rfl) (by intro _ _ _ h; exact h) (Or.inl ⟨by rfl, ?_⟩) (by assumption) ?_
     rotate_left
     focus (intro wT hT; (try dsimp only at hT); go_simp; try with_reducible rfl)
     try simp only [Act.put, List.setIfInBounds_toArray, List.set_cons_zero, List.set_cons_succ]
     refine wpAnyH_take (i := 18) (v := ?_) (by simp only [List.getElem?_toArray, List.getElem?_cons_succ, List.getElem?_cons_zero]; rfl) (by kernel_rfl) (by kernel_rfl) (by kernel_rfl) (by intro _ _ _ h; exact h) (Or.inl ⟨by rfl, ?_⟩) (by assumption) ?_
     rotate_left
     focus (intro wT hT; (try dsimp only at hT); go_simp; try with_reducible rfl)
     try simp only [Act.put, List.setIfInBounds_toArray, List.set_cons_zero, List.set_cons_succ]
     refine wpAnyH_take (i := 19) (v := ?_) (by simp only [List.getElem?_toArray, List.getElem?_cons_succ, List.getElem?_cons_zero]; rfl) (by kernel_rfl) (by kernel_rfl) (by kernel_rfl) (by intro _ _ _ h; exact h) (Or.inl ⟨by rfl, ?_⟩) (by assumption) ?_
     rotate_left
     focus (intro wT hT; (try dsimp only at hT); go_simp; try with_reducible rfl)
     try simp only [Act.put, List.setIfInBounds_toArray, List.set_cons_zero, List.set_cons_succ]
     refine wpAnyH_ready (rs := [20]) (by kernel_rfl) (by simp) (AllReadyH.cons (by simp only [List.getElem?_toArray, List.getElem?_cons_succ, List.getElem?_cons_zero]; rfl) (fun K hK => ?_) AllReadyH.nil)
     go_simp
     refine hK.out _ _ (by exact HXA.out.cell (i := 3) rfl) (fun hHe2 => ?_)
     clear hK K
     try simp only [Act.put, List.setIfInBounds_toArray, List.set_cons_zero, List.set_cons_succ]
     refine wpAnyH_ready (rs := [21]) (by kernel_rfl) (by simp) (AllReadyH.cons (by simp only [List.getElem?_toArray, List.getElem?_cons_succ, List.getElem?_cons_zero]; rfl) (fun K hK => ?_) AllReadyH.nil)
     refine step_appw tyBytes (by rfl) _ _ (by rfl) w.heap.size (.slice ua N uc) N _ (by rfl) HOA.out HZA.out (.slice (some ⟨wr.heap.size, 0, none⟩) 4 4) 4 [.int .u8 (td / 16777216 % 256), .int .u8 (td / 65536 % 256), .int .u8 (td / 256 % 256), .int .u8 (td % 256)] (by rfl) HSR.out (by rfl) (by simp [Value.oneCell']) (by omega) ?_
     intro v' w2 hown2 hgrow2 hlies2
     obtain ⟨ub, ud, rfl, hud⟩ := hown2.form
     have HBN := Lib.hid (belowK_grown HBA.out hgrow2 HZA.out (fun q hq => (HOA.out.lt q hq).1))
     have hbx2 := HXA.out.touch (Touch.of_grown (S := fun q => (Value.slice ua N uc).ownBlock = some q) hgrow2 (fun k hk => hk)) (fun hq => HXA.out.neOwn HOA.out (by decide) _ hq rfl)
     have HBX2 := Lib.hid hbx2
     refine hK.out _ _ (by exact hbx2.cell (i := 3) rfl) (fun hHe3 => ?_)
     clear hK K
     try simp only [Act.put, List.setIfInBounds_toArray, List.set_cons_zero, List.set_cons_succ]
     refine wpAnyH_take (i := 22) (v := ?_) (by simp only [List.getElem?_toArray, List.getElem?_cons_succ, List.getElem?_cons_zero]; rfl) (by kernel_rfl) (by kernel_rfl) (by kernel_rfl) (by intro _ _ _ h; exact h) (Or.inl ⟨by rfl, ?_⟩) (by assumption) ?_
     rotate_left
     focus (intro wT hT; (try dsimp only at hT); go_simp; try with_reducible rfl)
     try simp only [Act.put, List.setIfInBounds_toArray, List.set_cons_zero, List.set_cons_succ]
     refine wpAnyH_done (by kernel_rfl) ?_ _
     have HON := Lib.hid (show OwnWin w2 w.heap.size 5 1 (.slice ub (N + 4) ud) (N + 4) (bvals (outK ⟨ta, tb, tc, td, te, tf, tg, th⟩ (3 + 1))) by rw [outK_next ⟨ta, tb, tc, td, te, tf, tg, th⟩ 3 (by omega), ← bvals_append, show (stL ⟨ta, tb, tc, td, te, tf, tg, th⟩).getD 3 0 = td from rfl, word4_vals]; exact hown2)
     clear hown2 hgrow2 hlies2 hbx2
     go_wp2_with fail
     go_roundg (gk - 1)
     case rel => exact ⟨4, 4, N + 4, ub, ud, rfl, by omega, Lib.hid (by have := HQ.out; omega), by go_num, rfl, Lib.hid (by have := HN.out; omega), HON.out, HBX2.out, HBN.out⟩
     case measure => have := HQ.out; omega
    ·clear hk8 hki
     have c4 : wr.cell? ⟨w.heap.size, 4, none⟩ = some (.int .u32 te) := HBX.out.cell (i := 4) rfl
     have hz := HBX.out.lt
     have hbd : Below wr.heap.size wr (wr.drew.alloc (.cells #[.int .u8 (te / 16777216 % 256), .int .u8 (te / 65536 % 256), .int .u8 (te / 256 % 256), .int .u8 (te % 256)] 5)) := ((Below.refl wr.heap.size wr).drew).alloc (Nat.le_refl _) _
     have HOA := Lib.hid (HOW.out.older hbd)
     have HBA := Lib.hid (HBW.out.trans (hbd.mono HBW.out.size))
     have HXA := Lib.hid (HBX.out.older hbd)
     have HZA := Lib.hid HBA.out.size
     have HSR := Lib.hid (show SrcAt (wr.drew.alloc (.cells #[.int .u8 (te / 16777216 % 256), .int .u8 (te / 65536 % 256), .int .u8 (te / 256 % 256), .int .u8 (te % 256)] 5)) (.slice (some ⟨wr.heap.size, 0, none⟩) 4 4) 4 [.int .u8 (te / 16777216 % 256), .int .u8 (te / 65536 % 256), .int .u8 (te / 256 % 256), .int .u8 (te % 256)] from srcMany (heap_alloc_new wr.drew _))
     clear hbd
     go_wp2_with fail
     refine wp_region_held_drew (S := fun w' => w'.cell? ⟨w.heap.size, 4, none⟩ = some (.int .u32 te)) (by kernel_rfl) (by exact c4) (fun hHeld => ?_)
     refine wpAnyH_take (i := 0) (v := ?_) (by simp only [List.getElem?_toArray, List.getElem?_cons_succ, List.getElem?_cons_zero]; rfl) (by kernel_rfl) (by kernel_rfl) (by kernel_rfl) (by intro _ _ _ h; exact h) (Or.inl ⟨by rfl, ?_⟩) (by assumption) ?_
     rotate_left
     focus (intro wT hT; (try dsimp only at hT); go_simp; try with_reducible rfl)
     try simp only [Act.put, List.setIfInBounds_toArray, List.set_cons_zero, List.set_cons_succ]
     refine wpAnyH_take (i := 1) (v := ?_) (by simp only [List.getElem?_toArray, List.getElem?_cons_succ, List.getElem?_cons_zero]; rfl) (by kernel_rfl) (by kernel_rfl) (by kernel_rfl) (by intro _ _ _ h; exact h) (Or.inl ⟨by rfl, ?_⟩) (by assumption) ?_
     rotate_left
     focus (intro wT hT; (try dsimp only at hT); go_simp; try with_reducible rfl)
     try simp only [Act.put, List.setIfInBounds_toArray, List.set_cons_zero, List.set_cons_succ]
     refine wpAnyH_take (i := 2) (v := ?_) (by simp only [List.getElem?_toArray, List.getElem?_cons_succ, List.getElem?_cons_zero]; rfl) (by kernel_rfl) (by kernel_rfl) (by kernel_rfl) (by intro _ _ _ h; exact h) (Or.inl ⟨by rfl, ?_⟩) (by assumption) ?_
     rotate_left
     focus (intro wT hT; (try dsimp only at hT); go_simp; try with_reducible rfl)
     try simp only [Act.put, List.setIfInBounds_toArray, List.set_cons_zero, List.set_cons_succ]
     refine wpAnyH_take (i := 3) (v := ?_) (by simp only [List.getElem?_toArray, List.getElem?_cons_succ, List.getElem?_cons_zero]; rfl) (by kernel_rfl) (by kernel_rfl) (by kernel_rfl) (by intro _ _ _ h; exact h) (Or.inl ⟨by rfl, ?_⟩) (by assumption) ?_
     rotate_left
     focus (intro wT hT; (try dsimp only at hT); go_simp; try with_reducible rfl)
     try simp only [Act.put, List.setIfInBounds_toArray, List.set_cons_zero, List.set_cons_succ]
     refine wpAnyH_take (i := 4) (v := ?_) (by simp only [List.getElem?_toArray, List.getElem?_cons_succ, List.getElem?_cons_zero]; rfl) (by kernel_rfl) (by kernel_rfl) (by kernel_rfl) (by intro _ _ _ h; exact h) (Or.inl ⟨by rfl, ?_⟩) (by assumption) ?_
     rotate_left
     focus (intro wT hT; (try dsimp only at hT); go_simp; try with_reducible rfl)
     try simp only [Act.put, List.setIfInBounds_toArray, List.set_cons_zero, List.set_cons_succ]
     refine wpAnyH_take (i := 5) (v := ?_) (by simp only [List.getElem?_toArray, List.getElem?_cons_succ, List.getElem?_cons_zero]; rfl) (by kernel_rfl) (by kernel_rfl) (by kernel_rfl) (by intro _ _ _ h; exact h) (Or.inl ⟨by rfl, ?_⟩) (by assumption) ?_
     rotate_left
     focus (intro wT hT; (try dsimp only at hT); go_simp; try with_reducible rfl)
     try simp only [Act.put, List.setIfInBounds_toArray, List.set_cons_zero, List.set_cons_succ]
     refine wpAnyH_take (i := 6) (v := ?_) (by simp only [List.getElem?_toArray, List.getElem?_cons_succ, List.getElem?_cons_zero]; rfl) (by kernel_rfl) (by kernel_rfl) (by kernel_rfl) (by intro _ _ _ h; exact h) (Or.inl ⟨by rfl, ?_⟩) (by assumption) ?_
     rotate_left
     focus (intro wT hT; (try dsimp only at hT); go_simp; try with_reducible rfl)
     try simp only [Act.put, List.setIfInBounds_toArray, List.set_cons_zero, List.set_cons_succ]
     refine wpAnyH_take (i := 7) (v := ?_) (by simp only [List.getElem?_toArray, List.getElem?_cons_succ, List.getElem?_cons_zero]; rfl) (by kernel_rfl) (by kernel_rfl) (by kernel_rfl) (by intro _ _ _ h; exact h) (Or.inl ⟨by rfl, ?_⟩) (by assumption) ?_
     rotate_left
     focus (intro wT hT; (try dsimp only at hT); go_simp; try with_reducible rfl)
     try simp only [Act.put, List.setIfInBounds_toArray, List.set_cons_zero, List.set_cons_succ]
     refine wpAnyH_take (i := 8) (v := ?_) (by simp only [List.getElem?_toArray, List.getElem?_cons_succ, List.getElem?_cons_zero]; rfl) (by kernel_rfl) (by kernel_rfl) (by kernel_rfl) (by intro _ _ _ h; exact h) (Or.inl ⟨by rfl, ?_⟩) (by assumption) ?_
     rotate_left
     focus (intro wT hT; (try dsimp only at hT); go_simp; try with_reducible rfl)
     try simp only [Act.put, List.setIfInBounds_toArray, List.set_cons_zero, List.set_cons_succ]
     refine wpAnyH_take (i := 9) (v := ?_) (by simp only [List.getElem?_toArray, List.getElem?_cons_succ, List.getElem?_cons_zero]; rfl) (by kernel_rfl) (by kernel_rfl) (by kernel_rfl) (by intro _ _ _ h; exact h) (Or.inl ⟨by rfl, ?_⟩) (by assumption) ?_
     rotate_left
     focus (intro wT hT; (try dsimp only at hT); go_simp; try with_reducible rfl)
     try simp only [Act.put, List.setIfInBounds_toArray, List.set_cons_zero, List.set_cons_succ]
     refine wpAnyH_take (i := 10) (v := ?_) (by simp only [List.getElem?_toArray, List.getElem?_cons_succ, List.getElem?_cons_zero]; rfl) (by kernel_rfl) (by kernel_rfl) (by kernel_rfl) (by intro _ _ _ h; exact h) (Or.inl ⟨by rfl, ?_⟩) (by assumption) ?_
     rotate_left
     focus (intro wT hT; (try dsimp only at hT); go_simp; try with_reducible rfl)
     try simp only [Act.put, List.setIfInBounds_toArray, List.set_cons_zero, List.set_cons_succ]
     refine wpAnyH_take (i := 11) (v := ?_) (by simp only [List.getElem?_toArray, List.getElem?_cons_succ, List.getElem?_cons_zero]; rfl) (by kernel_rfl) (by kernel_rfl) (by kernel_rfl) (by intro _ _ _ h; exact h) (Or.inl ⟨by rfl, ?_⟩) (by assumption) ?_
     rotate_left
     focus (intro wT hT; (try dsimp only at hT); go_simp; try with_reducible rfl)
     try simp only [Act.put, List.setIfInBounds_toArray, List.set_cons_zero, List.set_cons_succ]
     refine wpAnyH_take (i := 12) (v := ?_) (by simp only [List.getElem?_toArray, List.getElem?_cons_succ, List.getElem?_cons_zero]; rfl) (by kernel_rfl) (by kernel_rfl) (by kernel_rfl) (by intro _ _ _ h; exact h) (Or.inl ⟨by rfl, ?_⟩) (by assumption) ?_
     rotate_left
     focus (intro wT hT; (try dsimp only at hT); go_simp; try with_reducible rfl)
     try simp only [Act.put, List.setIfInBounds_toArray, List.set_cons_zero, List.set_cons_succ]
     refine wpAnyH_take (i := 13) (v := ?_) (by simp only [List.getElem?_toArray, List.getElem?_cons_succ, List.getElem?_cons_zero]; rfl) (by kernel_rfl) (by kernel_rfl) (by kernel_rfl) (by intro _ _ _ h; exact h) (Or.inl ⟨by rfl, ?_⟩) (by assumption) ?_
     rotate_left
     focus (intro wT hT; (try dsimp only at hT); go_simp; try with_reducible rfl)
     try simp only [Act.put, List.setIfInBounds_toArray, List.set_cons_zero, List.set_cons_succ]
     refine wpAnyH_take (i := 14) (v := ?_) (by simp only [List.getElem?_toArray, List.getElem?_cons_succ, List.getElem?_cons_zero]; rfl) (by kernel_rfl) (by kernel_rfl) (by kernel_rfl) (by intro _ _ _ h; exact h) (Or.inl ⟨by rfl, ?_⟩) (by assumption) ?_
     rotate_left
     focus (intro wT hT; (try dsimp only at hT); go_simp; try with_reducible rfl)
     try simp only [Act.put, List.setIfInBounds_toArray, List.set_cons_zero, List.set_cons_succ]
     refine wpAnyH_take (i := 15) (v := ?_) (by simp only [List.getElem?_toArray, List.getElem?_cons_succ, List.getElem?_cons_zero]; rfl) (by kernel_rfl) (by kernel_rfl) (by kernel_rfl) (by intro _ _ _ h; exact h) (Or.inl ⟨by rfl, ?_⟩) (by assumption) ?_
     rotate_left
     focus (intro wT hT; (try dsimp only at hT); go_simp; try with_reducible rfl)
     try simp only [Act.put, List.setIfInBounds_toArray, List.set_cons_zero, List.set_cons_succ]
     refine wpAnyH_take (i := 16) (v := ?_) (by simp only [List.getElem?_toArray, List.getElem?_cons_succ, List.getElem?_cons_zero]; rfl) (by kernel_rfl) (by kernel_rfl) (by kernel_rfl) (by intro _ _ _ h; exact h) (Or.inl ⟨by rfl, ?_⟩) (by assumption) ?_
     rotate_left
     focus (intro wT hT; (try dsimp only at hT); go_simp; try with_reducible rfl)
     try simp only [Act.put, List.setIfInBounds_toArray, List.set_cons_zero, List.set_cons_succ]
     refine wpAnyH_take (i := 17) (v := ?_) (by simp only [List.getElem?_toArray, List.getElem?_cons_succ, List.getElem?_cons_zero]; rfl) (by kernel_rfl) (by kernel_rfl) (by kernel_rfl) (by intro _ _ _ h; exact h) (Or.inl ⟨by rfl, ?_⟩) (by assumption) ?_
     rotate_left
     focus (intro wT hT; (try dsimp only at hT); go_simp; try with_reducible rfl)
     try simp only [Act.put, List.setIfInBounds_toArray, List.set_cons_zero, List.set_cons_succ]
     refine wpAnyH_take (i := 18) (v := ?_) (by simp only [List.getElem?_toArray, List.getElem?_cons_succ, List.getElem?_cons_zero]; rfl) (by kernel_rfl) (by kernel_rfl) (by kernel_rfl) (by intro _ _ _ h; exact h) (Or.inl ⟨by rfl, ?_⟩) (by assumption) ?_
     rotate_left
     focus (intro wT hT; (try dsimp only at hT); go_simp; try with_reducible rfl)
     try simp only [Act.put, List.setIfInBounds_toArray, List.set_cons_zero, List.set_cons_succ]
     refine wpAnyH_take (i := 19) (v := ?_) (by simp only [List.getElem?_toArray, List.getElem?_cons_succ, List.getElem?_cons_zero]; rfl) (by kernel_rfl) (by kernel_rfl) (by kernel_rfl) (by intro _ _ _ h; exact h) (Or.inl ⟨by rfl, ?_⟩) (by assumption) ?_
     rotate_left
     focus (intro wT hT; (try dsimp only at hT); go_simp; try with_reducible rfl)
     try simp only [Act.put, List.setIfInBounds_toArray, List.set_cons_zero, List.set_cons_succ]
     refine wpAnyH_ready (rs := [20]) (by kernel_rfl) (by simp) (AllReadyH.cons (by simp only [List.getElem?_toArray, List.getElem?_cons_succ, List.getElem?_cons_zero]; rfl) (fun K hK => ?_) AllReadyH.nil)
     go_simp
     refine hK.out _ _ (by exact HXA.out.cell (i := 4) rfl) (fun hHe2 => ?_)
     clear hK K
     try simp only [Act.put, List.setIfInBounds_toArray, List.set_cons_zero, List.set_cons_succ]
     refine wpAnyH_ready (rs := [21]) (by kernel_rfl) (by simp) (AllReadyH.cons (by simp only [List.getElem?_toArray, List.getElem?_cons_succ, List.getElem?_cons_zero]; rfl) (fun K hK => ?_) AllReadyH.nil)
     refine step_appw tyBytes (by rfl) _ _ (by rfl) w.heap.size (.slice ua N uc) N _ (by rfl) HOA.out HZA.out (.slice (some ⟨wr.heap.size, 0, none⟩) 4 4) 4 [.int .u8 (te / 16777216 % 256), .int .u8 (te / 65536 % 256), .int .u8 (te / 256 % 256), .int .u8 (te % 256)] (by rfl) HSR.out (by rfl) (by simp [Value.oneCell']) (by omega) ?_
     intro v' w2 hown2 hgrow2 hlies2
     obtain ⟨ub, ud, rfl, hud⟩ := hown2.form
     have HBN := Lib.hid (belowK_grown HBA.out hgrow2 HZA.out (fun q hq => (HOA.out.lt q hq).1))
     have hbx2 := HXA.out.touch (Touch.of_grown (S := fun q => (Value.slice ua N uc).ownBlock = some q) hgrow2 (fun k hk => hk)) (fun hq => HXA.out.neOwn HOA.out (by decide) _ hq rfl)
     have HBX2 := Lib.hid hbx2
     refine hK.out _ _ (by exact hbx2.cell (i := 4) rfl) (fun hHe3 => ?_)
     clear hK K
     try simp only [Act.put, List.setIfInBounds_toArray, List.set_cons_zero, List.set_cons_succ]
     refine wpAnyH_take (i := 22) (v := ?_) (by simp only [List.getElem?_toArray, List.getElem?_cons_succ, List.getElem?_cons_zero]; rfl) (by kernel_rfl) (by kernel_rfl) (by kernel_rfl) (by intro _ _ _ h; exact h) (Or.inl ⟨by rfl, ?_⟩) (by assumption) ?_
     rotate_left
     focus (intro wT hT; (try dsimp only at hT); go_simp; try with_reducible rfl)
     try simp only [Act.put, List.setIfInBounds_toArray, List.set_cons_zero, List.set_cons_succ]
     refine wpAnyH_done (by kernel_rfl) ?_ _
     have HON := Lib.hid (show OwnWin w2 w.heap.size 5 1 (.slice ub (N + 4) ud) (N + 4) (bvals (outK ⟨ta, tb, tc, td, te, tf, tg, th⟩ (4 + 1))) by rw [outK_next ⟨ta, tb, tc, td, te, tf, tg, th⟩ 4 (by omega), ← bvals_append, show (stL ⟨ta, tb, tc, td, te, tf, tg, th⟩).getD 4 0 = te from rfl, word4_vals]; exact hown2)
     clear hown2 hgrow2 hlies2 hbx2
     go_wp2_with fail
     go_roundg (gk - 1)
     case rel => exact ⟨5, 5, N + 4, ub, ud, rfl, by omega, Lib.hid (by have := HQ.out; omega), by go_num, rfl, Lib.hid (by have := HN.out; omega), HON.out, HBX2.out, HBN.out⟩
     case measure => have := HQ.out; omega
    ·clear hk8 hki
     have c5 : wr.cell? ⟨w.heap.size, 5, none⟩ = some (.int .u32 tf) := HBX.out.cell (i := 5) rfl
     have hz := HBX.out.lt
     have hbd : Below wr.heap.size wr (wr.drew.alloc (.cells #[.int .u8 (tf / 16777216 % 256), .int .u8 (tf / 65536 % 256), .int .u8 (tf / 256 % 256), .int .u8 (tf % 256)] 5)) := ((Below.refl wr.heap.size wr).drew).alloc (Nat.le_refl _) _
     have HOA := Lib.hid (HOW.out.older hbd)
     have HBA := Lib.hid (HBW.out.trans (hbd.mono HBW.out.size))
     have HXA := Lib.hid (HBX.out.older hbd)
     have HZA := Lib.hid HBA.out.size
     have HSR := Lib.hid (show SrcAt (wr.drew.alloc (.cells #[.int .u8 (tf / 16777216 % 256), .int .u8 (tf / 65536 % 256), .int .u8 (tf / 256 % 256), .int .u8 (tf % 256)] 5)) (.slice (some ⟨wr.heap.size, 0, none⟩) 4 4) 4 [.int .u8 (tf / 16777216 % 256), .int .u8 (tf / 65536 % 256), .int .u8 (tf / 256 % 256), .int .u8 (tf % 256)] from srcMany (heap_alloc_new wr.drew _))
     clear hbd
     go_wp2_with fail
     refine wp_region_held_drew (S := fun w' => w'.cell? ⟨w.heap.size, 5, none⟩ = some (.int .u32 tf)) (by kernel_rfl) (by exact c5) (fun hHeld => ?_)
     refine wpAnyH_take (i := 0) (v := ?_) (by simp only [List.getElem?_toArray, List.getElem?_cons_succ, List.getElem?_cons_zero]; rfl) (by kernel_rfl) (by kernel_rfl) (by kernel_rfl) (by intro _ _ _ h; exact h) (Or.inl ⟨by rfl, ?_⟩) (by assumption) ?_
     rotate_left
     focus (intro wT hT; (try dsimp only at hT); go_simp; try with_reducible rfl)
     try simp only [Act.put, List.setIfInBounds_toArray, List.set_cons_zero, List.set_cons_succ]
     refine wpAnyH_take (i := 1) (v := ?_) (by simp only [List.getElem?_toArray, List.getElem?_cons_succ, List.getElem?_cons_zero]; rfl) (by kernel_rfl) (by kernel_rfl) (by kernel_rfl) (by intro _ _ _ h; exact h) (Or.inl ⟨by rfl, ?_⟩) (by assumption) ?_
     rotate_left
     focus (intro wT hT; (try dsimp only at hT); go_simp; try with_reducible rfl)
     try simp only [Act.put, List.setIfInBounds_toArray, List.set_cons_zero, List.set_cons_succ]
     refine wpAnyH_take (i := 2) (v := ?_) (by simp only [List.getElem?_toArray, List.getElem?_cons_succ, List.getElem?_cons_zero]; rfl) (by kernel_rfl) (by kernel_rfl) (by kernel_rfl) (by intro _ _ _ h; exact h) (Or.inl ⟨by rfl, ?_⟩) (by assumption) ?_
     rotate_left
     focus (intro wT hT; (try dsimp only at hT); go_simp; try with_reducible rfl)
     try simp only [Act.put, List.setIfInBounds_toArray, List.set_cons_zero, List.set_cons_succ]
     refine wpAnyH_take (i := 3) (v := ?_) (by simp only [List.getElem?_toArray, List.getElem?_cons_succ, List.getElem?_cons_zero]; rfl) (by kernel_rfl) (by kernel_rfl) (by kernel_rfl) (by intro _ _ _ h; exact h) (Or.inl ⟨by rfl, ?_⟩) (by assumption) ?_
     rotate_left
     focus (intro wT hT; (try dsimp only at hT); go_simp; try with_reducible rfl)
     try simp only [Act.put, List.setIfInBounds_toArray, List.set_cons_zero, List.set_cons_succ]
     refine wpAnyH_take (i := 4) (v := ?_) (by simp only [List.getElem?_toArray, List.getElem?_cons_succ, List.getElem?_cons_zero]; rfl) (by kernel_rfl) (by kernel_rfl) (by kernel_rfl) (by intro _ _ _ h; exact h) (Or.inl ⟨by rfl, ?_⟩) (by assumption) ?_
     rotate_left
     focus (intro wT hT; (try dsimp only at hT); go_simp; try with_reducible rfl)
     try simp only [Act.put, List.setIfInBounds_toArray, List.set_cons_zero, List.set_cons_succ]
     refine wpAnyH_take (i := 5) (v := ?_) (by simp only [List.getElem?_toArray, List.getElem?_cons_succ, List.getElem?_cons_zero]; rfl) (by kernel_rfl) (by kernel_rfl) (by kernel_rfl) (by intro _ _ _ h; exact h) (Or.inl ⟨by rfl, ?_⟩) (by assumption) ?_
     rotate_left
     focus (intro wT hT; (try dsimp only at hT); go_simp; try with_reducible rfl)
     try simp only [Act.put, List.setIfInBounds_toArray, List.set_cons_zero, List.set_cons_succ]
     refine wpAnyH_take (i := 6) (v := ?_) (by simp only [List.getElem?_toArray, List.getElem?_cons_succ, List.getElem?_cons_zero]; rfl) (by kernel_rfl) (by kernel_rfl) (by kernel_rfl) (by intro _ _ _ h; exact h) (Or.inl ⟨by rfl, ?_⟩) (by assumption) ?_
     rotate_left
     focus (intro wT hT; (try dsimp only at hT); go_simp; try with_reducible rfl)
     try simp only [Act.put, List.setIfInBounds_toArray, List.set_cons_zero, List.set_cons_succ]
     refine wpAnyH_take (i := 7) (v := ?_) (by simp only [List.getElem?_toArray, List.getElem?_cons_succ, List.getElem?_cons_zero]; rfl) (by kernel_rfl) (by kernel_rfl) (by kernel_rfl) (by intro _ _ _ h; exact h) (Or.inl ⟨by rfl, ?_⟩) (by assumption) ?_
     rotate_left
     focus (intro wT hT; (try dsimp only at hT); go_simp; try with_reducible rfl)
     try simp only [Act.put, List.setIfInBounds_toArray, List.set_cons_zero, List.set_cons_succ]
     refine wpAnyH_take (i := 8) (v := ?_) (by simp only [List.getElem?_toArray, List.getElem?_cons_succ, List.getElem?_cons_zero]; rfl) (by kernel_rfl) (by kernel_rfl) (by kernel_rfl) (by intro _ _ _ h; exact h) (Or.inl ⟨by rfl, ?_⟩) (by assumption) ?_
     rotate_left
     focus (intro wT hT; (try dsimp only at hT); go_simp; try with_reducible rfl)
     try simp only [Act.put, List.setIfInBounds_toArray, List.set_cons_zero, List.set_cons_succ]
     refine wpAnyH_take (i := 9) (v := ?_) (by simp only [List.getElem?_toArray, List.getElem?_cons_succ, List.getElem?_cons_zero]; rfl) (by kernel_rfl) (by kernel_rfl) (by kernel_rfl) (by intro _ _ _ h; exact h) (Or.inl ⟨by rfl, ?_⟩) (by assumption) ?_
     rotate_left
     focus (intro wT hT; (try dsimp only at hT); go_simp; try with_reducible rfl)
     try simp only [Act.put, List.setIfInBounds_toArray, List.set_cons_zero, List.set_cons_succ]
     refine wpAnyH_take (i := 10) (v := ?_) (by simp only [List.getElem?_toArray, List.getElem?_cons_succ, List.getElem?_cons_zero]; rfl) (by kernel_rfl) (by kernel_rfl) (by kernel_rfl) (by intro _ _ _ h; exact h) (Or.inl ⟨by rfl, ?_⟩) (by assumption) ?_
     rotate_left
     focus (intro wT hT; (try dsimp only at hT); go_simp; try with_reducible rfl)
     try simp only [Act.put, List.setIfInBounds_toArray, List.set_cons_zero, List.set_cons_succ]
     refine wpAnyH_take (i := 11) (v := ?_) (by simp only [List.getElem?_toArray, List.getElem?_cons_succ, List.getElem?_cons_zero]; rfl) (by kernel_rfl) (by kernel_rfl) (by kernel_rfl) (by intro _ _ _ h; exact h) (Or.inl ⟨by rfl, ?_⟩) (by assumption) ?_
     rotate_left
     focus (intro wT hT; (try dsimp only at hT); go_simp; try with_reducible rfl)
     try simp only [Act.put, List.setIfInBounds_toArray, List.set_cons_zero, List.set_cons_succ]
     refine wpAnyH_take (i := 12) (v := ?_) (by simp only [List.getElem?_toArray, List.getElem?_cons_succ, List.getElem?_cons_zero]; rfl) (by kernel_rfl) (by kernel_rfl) (by kernel_rfl) (by intro _ _ _ h; exact h) (Or.inl ⟨by rfl, ?_⟩) (by assumption) ?_
     rotate_left
     focus (intro wT hT; (try dsimp only at hT); go_simp; try with_reducible rfl)
     try simp only [Act.put, List.setIfInBounds_toArray, List.set_cons_zero, List.set_cons_succ]
     refine wpAnyH_take (i := 13) (v := ?_) (by simp only [List.getElem?_toArray, List.getElem?_cons_succ, List.getElem?_cons_zero]; rfl) (by kernel_rfl) (by kernel_rfl) (by kernel_rfl) (by intro _ _ _ h; exact h) (Or.inl ⟨by rfl, ?_⟩) (by assumption) ?_
     rotate_left
     focus (intro wT hT; (try dsimp only at hT); go_simp; try with_reducible rfl)
     try simp only [Act.put, List.setIfInBounds_toArray, List.set_cons_zero, List.set_cons_succ]
     refine wpAnyH_take (i := 14) (v := ?_) (by simp only [List.getElem?_toArray, List.getElem?_cons_succ, List.getElem?_cons_zero]; rfl) (by kernel_rfl) (by kernel_rfl) (by kernel_rfl) (by intro _ _ _ h; exact h) (Or.inl ⟨by rfl, ?_⟩) (by assumption) ?_
     rotate_left
     focus (intro wT hT; (try dsimp only at hT); go_simp; try with_reducible rfl)
     try simp only [Act.put, List.setIfInBounds_toArray, List.set_cons_zero, List.set_cons_succ]
     refine wpAnyH_take (i := 15) (v := ?_) (by simp only [List.getElem?_toArray, List.getElem?_cons_succ, List.getElem?_cons_zero]; rfl) (by kernel_rfl) (by kernel_rfl) (by kernel_rfl) (by intro _ _ _ h; exact h) (Or.inl ⟨by rfl, ?_⟩) (by assumption) ?_
     rotate_left
     focus (intro wT hT; (try dsimp only at hT); go_simp; try with_reducible rfl)
     try simp only [Act.put, List.setIfInBounds_toArray, List.set_cons_zero, List.set_cons_succ]
     refine wpAnyH_take (i := 16) (v := ?_) (by simp only [List.getElem?_toArray, List.getElem?_cons_succ, List.getElem?_cons_zero]; rfl) (by kernel_rfl) (by kernel_rfl) (by kernel_rfl) (by intro _ _ _ h; exact h) (Or.inl ⟨by rfl, ?_⟩) (by assumption) ?_
     rotate_left
     focus (intro wT hT; (try dsimp only at hT); go_simp; try with_reducible rfl)
     try simp only [Act.put, List.setIfInBounds_toArray, List.set_cons_zero, List.set_cons_succ]
     refine wpAnyH_take (i := 17) (v := ?_) (by simp only [List.getElem?_toArray, List.getElem?_cons_succ, List.getElem?_cons_zero]; rfl) (by kernel_rfl) (by kernel_rfl) (by kernel_rfl) (by intro _ _ _ h; exact h) (Or.inl ⟨by rfl, ?_⟩) (by assumption) ?_
     rotate_left
     focus (intro wT hT; (try dsimp only at hT); go_simp; try with_reducible rfl)
     try simp only [Act.put, List.setIfInBounds_toArray, List.set_cons_zero, List.set_cons_succ]
     refine wpAnyH_take (i := 18) (v := ?_) (by simp only [List.getElem?_toArray, List.getElem?_cons_succ, List.getElem?_cons_zero]; rfl) (by kernel_rfl) (by kernel_rfl) (by kernel_rfl) (by intro _ _ _ h; exact h) (Or.inl ⟨by rfl, ?_⟩) (by assumption) ?_
     rotate_left
     focus (intro wT hT; (try dsimp only at hT); go_simp; try with_reducible rfl)
     try simp only [Act.put, List.setIfInBounds_toArray, List.set_cons_zero, List.set_cons_succ]
     refine wpAnyH_take (i := 19) (v := ?_) (by simp only [List.getElem?_toArray, List.getElem?_cons_succ, List.getElem?_cons_zero]; rfl) (by kernel_rfl) (by kernel_rfl) (by kernel_rfl) (by intro _ _ _ h; exact h) (Or.inl ⟨by rfl, ?_⟩) (by assumption) ?_
     rotate_left
     focus (intro wT hT; (try dsimp only at hT); go_simp; try with_reducible rfl)
     try simp only [Act.put, List.setIfInBounds_toArray, List.set_cons_zero, List.set_cons_succ]
     refine wpAnyH_ready (rs := [20]) (by kernel_rfl) (by simp) (AllReadyH.cons (by simp only [List.getElem?_toArray, List.getElem?_cons_succ, List.getElem?_cons_zero]; rfl) (fun K hK => ?_) AllReadyH.nil)
     go_simp
     refine hK.out _ _ (by exact HXA.out.cell (i := 5) rfl) (fun hHe2 => ?_)
     clear hK K
     try simp only [Act.put, List.setIfInBounds_toArray, List.set_cons_zero, List.set_cons_succ]
     refine wpAnyH_ready (rs := [21]) (by kernel_rfl) (by simp) (AllReadyH.cons (by simp only [List.getElem?_toArray, List.getElem?_cons_succ, List.getElem?_cons_zero]; rfl) (fun K hK => ?_) AllReadyH.nil)
     refine step_appw tyBytes (by rfl) _ _ (by rfl) w.heap.size (.slice ua N uc) N _ (by rfl) HOA.out HZA.out (.slice (some ⟨wr.heap.size, 0, none⟩) 4 4) 4 [.int .u8 (tf / 16777216 % 256), .int .u8 (tf / 65536 % 256), .int .u8 (tf / 256 % 256), .int .u8 (tf % 256)] (by rfl) HSR.out (by rfl) (by simp [Value.oneCell']) (by omega) ?_
     intro v' w2 hown2 hgrow2 hlies2
     obtain ⟨ub, ud, rfl, hud⟩ := hown2.form
     have HBN := Lib.hid (belowK_grown HBA.out hgrow2 HZA.out (fun q hq => (HOA.out.lt q hq).1))
     have hbx2 := HXA.out.touch (Touch.of_grown (S := fun q => (Value.slice ua N uc).ownBlock = some q) hgrow2 (fun k hk => hk)) (fun hq => HXA.out.neOwn HOA.out (by decide) _ hq rfl)
     have HBX2 := Lib.hid hbx2
     refine hK.out _ _ (by exact hbx2.cell (i := 5) rfl) (fun hHe3 => ?_)
     clear hK K
     try simp only [Act.put, List.setIfInBounds_toArray, List.set_cons_zero, List.set_cons_succ]
     refine wpAnyH_take (i := 22) (v := ?_) (by simp only [List.getElem?_toArray, List.getElem?_cons_succ, List.getElem?_cons_zero]; rfl) (by kernel_rfl) (by kernel_rfl) (by kernel_rfl) (by intro _ _ _ h; exact h) (Or.inl ⟨by rfl, ?_⟩) (by assumption) ?_
     rotate_left
     focus (intro wT hT; (try dsimp only at hT); go_simp; try with_reducible rfl)
     try simp only [Act.put, List.setIfInBounds_toArray, List.set_cons_zero, List.set_cons_succ]
     refine wpAnyH_done (by kernel_rfl) ?_ _
     have HON := Lib.hid (show OwnWin w2 w.heap.size 5 1 (.slice ub (N + 4) ud) (N + 4) (bvals (outK ⟨ta, tb, tc, td, te, tf, tg, th⟩ (5 + 1))) by rw [outK_next ⟨ta, tb, tc, td, te, tf, tg, th⟩ 5 (by omega), ← bvals_append, show (stL ⟨ta, tb, tc, td, te, tf, tg, th⟩).getD 5 0 = tf from rfl, word4_vals]; exact hown2)
     clear hown2 hgrow2 hlies2 hbx2
     go_wp2_with fail
     go_roundg (gk - 1)
     case rel => exact ⟨6, 6, N + 4, ub, ud, rfl, by omega, Lib.hid (by have := HQ.out; omega), by go_num, rfl, Lib.hid (by have := HN.out; omega), HON.out, HBX2.out, HBN.out⟩
     case measure => have := HQ.out; omega
    ·clear hk8 hki
     have c6 : wr.cell? ⟨w.heap.size, 6, none⟩ = some (.int .u32 tg) := HBX.out.cell (i := 6) rfl
     have hz := HBX.out.lt
     have hbd : Below wr.heap.size wr (wr.drew.alloc (.cells #[.int .u8 (tg / 16777216 % 256), .int .u8 (tg / 65536 % 256), .int .u8 (tg / 256 % 256), .int .u8 (tg % 256)] 5)) := ((Below.refl wr.heap.size wr).drew).alloc (Nat.le_refl _) _
     have HOA := Lib.hid (HOW.out.older hbd)
     have HBA := Lib.hid (HBW.out.trans (hbd.mono HBW.out.size))
     have HXA := Lib.hid (HBX.out.older hbd)
     have HZA := Lib.hid HBA.out.size
     have HSR := Lib.hid (show SrcAt (wr.drew.alloc (.cells #[.int .u8 (tg / 16777216 % 256), .int .u8 (tg / 65536 % 256), .int .u8 (tg / 256 % 256), .int .u8 (tg % 256)] 5)) (.slice (some ⟨wr.heap.size, 0, none⟩) 4 4) 4 [.int .u8 (tg / 16777216 % 256), .int .u8 (tg / 65536 % 256), .int .u8 (tg / 256 % 256), .int .u8 (tg % 256)] from srcMany (heap_alloc_new wr.drew _))
     clear hbd
     go_wp2_with fail
     refine wp_region_held_drew (S := fun w' => w'.cell? ⟨w.heap.size, 6, none⟩ = some (.int .u32 tg)) (by kernel_rfl) (by exact c6) (fun hHeld => ?_)
     refine wpAnyH_take (i := 0) (v := ?_) (by simp only [List.getElem?_toArray, List.getElem?_cons_succ, List.getElem?_cons_zero]; rfl) (by kernel_rfl) (by kernel_rfl) (by kernel_rfl) (by intro _ _ _ h; exact h) (Or.inl ⟨by rfl, ?_⟩) (by assumption) ?_
     rotate_left
     focus (intro wT hT; (try dsimp only at hT); go_simp; try with_reducible rfl)
     try simp only [Act.put, List.setIfInBounds_toArray, List.set_cons_zero, List.set_cons_succ]
     refine wpAnyH_take (i := 1) (v := ?_) (by simp only [List.getElem?_toArray, List.getElem?_cons_succ, List.getElem?_cons_zero]; rfl) (by kernel_rfl) (by kernel_rfl) (by kernel_rfl) (by intro _ _ _ h; exact h) (Or.inl ⟨by rfl, ?_⟩) (by assumption) ?_
     rotate_left
     focus (intro wT hT; (try dsimp only at hT); go_simp; try with_reducible rfl)
     try simp only [Act.put, List.setIfInBounds_toArray, List.set_cons_zero, List.set_cons_succ]
     refine wpAnyH_take (i := 2) (v := ?_) (by simp only [List.getElem?_toArray, List.getElem?_cons_succ, List.getElem?_cons_zero]; rfl) (by kernel_rfl) (by kernel_rfl) (by kernel_rfl) (by intro _ _ _ h; exact h) (Or.inl ⟨by rfl, ?_⟩) (by assumption) ?_
     rotate_left
     focus (intro wT hT; (try dsimp only at hT); go_simp; try with_reducible rfl)
     try simp only [Act.put, List.setIfInBounds_toArray, List.set_cons_zero, List.set_cons_succ]
     refine wpAnyH_take (i := 3) (v := ?_) (by simp only [List.getElem?_toArray, List.getElem?_cons_succ, List.getElem?_cons_zero]; rfl) (by kernel_rfl) (by kernel_rfl) (by kernel_rfl) (by intro _ _ _ h; exact h) (Or.inl ⟨by rfl, ?_⟩) (by assumption) ?_
     rotate_left
     focus (intro wT hT; (try dsimp only at hT); go_simp; try with_reducible rfl)
     try simp only [Act.put, List.setIfInBounds_toArray, List.set_cons_zero, List.set_cons_succ]
     refine wpAnyH_take (i := 4) (v := ?_) (by simp only [List.getElem?_toArray, List.getElem?_cons_succ, List.getElem?_cons_zero]; rfl) (by kernel_rfl) (by kernel_rfl) (by kernel_rfl) (by intro _ _ _ h; exact h) (Or.inl ⟨by rfl, ?_⟩) (by assumption) ?_
     rotate_left
     focus (intro wT hT; (try dsimp only at hT); go_simp; try with_reducible rfl)
     try simp only [Act.put, List.setIfInBounds_toArray, List.set_cons_zero, List.set_cons_succ]
     refine wpAnyH_take (i := 5) (v := ?_) (by simp only [List.getElem?_toArray, List.getElem?_cons_succ, List.getElem?_cons_zero]; rfl) (by kernel_rfl) (by kernel_rfl) (by kernel_rfl) (by intro _ _ _ h; exact h) (Or.inl ⟨by rfl, ?_⟩) (by assumption) ?_
     rotate_left
     focus (intro wT hT; (try dsimp only at hT); go_simp; try with_reducible rfl)
     try simp only [Act.put, List.setIfInBounds_toArray, List.set_cons_zero, List.set_cons_succ]
     refine wpAnyH_take (i := 6) (v := ?_) (by simp only [List.getElem?_toArray, List.getElem?_cons_succ, List.getElem?_cons_zero]; rfl) (by kernel_rfl) (by kernel_rfl) (by kernel_rfl) (by intro _ _ _ h; exact h) (Or.inl ⟨by rfl, ?_⟩) (by assumption) ?_
     rotate_left
     focus (intro wT hT; (try dsimp only at hT); go_simp; try with_reducible rfl)
     try simp only [Act.put, List.setIfInBounds_toArray, List.set_cons_zero, List.set_cons_succ]
     refine wpAnyH_take (i := 7) (v := ?_) (by simp only [List.getElem?_toArray, List.getElem?_cons_succ, List.getElem?_cons_zero]; rfl) (by kernel_rfl) (by kernel_rfl) (by kernel_rfl) (by intro _ _ _ h; exact h) (Or.inl ⟨by rfl, ?_⟩) (by assumption) ?_
     rotate_left
     focus (intro wT hT; (try dsimp only at hT); go_simp; try with_reducible rfl)
     try simp only [Act.put, List.setIfInBounds_toArray, List.set_cons_zero, List.set_cons_succ]
     refine wpAnyH_take (i := 8) (v := ?_) (by simp only [List.getElem?_toArray, List.getElem?_cons_succ, List.getElem?_cons_zero]; rfl) (by kernel_rfl) (by kernel_rfl) (by kernel_rfl) (by intro _ _ _ h; exact h) (Or.inl ⟨by rfl, ?_⟩) (by assumption) ?_
     rotate_left
     focus (intro wT hT; (try dsimp only at hT); go_simp; try with_reducible rfl)
     try simp only [Act.put, List.setIfInBounds_toArray, List.set_cons_zero, List.set_cons_succ]
     refine wpAnyH_take (i := 9) (v := ?_) (by simp only [List.getElem?_toArray, List.getElem?_cons_succ, List.getElem?_cons_zero]; rfl) (by kernel_rfl) (by kernel_rfl) (by kernel_rfl) (by intro _ _ _ h; exact h) (Or.inl ⟨by rfl, ?_⟩) (by assumption) ?_
     rotate_left
     focus (intro wT hT; (try dsimp only at hT); go_simp; try with_reducible rfl)
     try simp only [Act.put, List.setIfInBounds_toArray, List.set_cons_zero, List.set_cons_succ]
     refine wpAnyH_take (i := 10) (v := ?_) (by simp only [List.getElem?_toArray, List.getElem?_cons_succ, List.getElem?_cons_zero]; rfl) (by kernel_rfl) (by kernel_rfl) (by kernel_rfl) (by intro _ _ _ h; exact h) (Or.inl ⟨by rfl, ?_⟩) (by assumption) ?_
     rotate_left
     focus (intro wT hT; (try dsimp only at hT); go_simp; try with_reducible rfl)
     try simp only [Act.put, List.setIfInBounds_toArray, List.set_cons_zero, List.set_cons_succ]
     refine wpAnyH_take (i := 11) (v := ?_) (by simp only [List.getElem?_toArray, List.getElem?_cons_succ, List.getElem?_cons_zero]; rfl) (by kernel_rfl) (by kernel_rfl) (by kernel_rfl) (by intro _ _ _ h; exact h) (Or.inl ⟨by rfl, ?_⟩) (by assumption) ?_
     rotate_left
     focus (intro wT hT; (try dsimp only at hT); go_simp; try with_reducible rfl)
     try simp only [Act.put, List.setIfInBounds_toArray, List.set_cons_zero, List.set_cons_succ]
     refine wpAnyH_take (i := 12) (v := ?_) (by simp only [List.getElem?_toArray, List.getElem?_cons_succ, List.getElem?_cons_zero]; rfl) (by kernel_rfl) (by kernel_rfl) (by kernel_rfl) (by intro _ _ _ h; exact h) (Or.inl ⟨by rfl, ?_⟩) (by assumption) ?_
     rotate_left
     focus (intro wT hT; (try dsimp only at hT); go_simp; try with_reducible rfl)
     try simp only [Act.put, List.setIfInBounds_toArray, List.set_cons_zero, List.set_cons_succ]
     refine wpAnyH_take (i := 13) (v := ?_) (by simp only [List.getElem?_toArray, List.getElem?_cons_succ, List.getElem?_cons_zero]; rfl) (by kernel_rfl) (by kernel_rfl) (by kernel_rfl) (by intro _ _ _ h; exact h) (Or.inl ⟨by rfl, ?_⟩) (by assumption) ?_
     rotate_left
     focus (intro wT hT; (try dsimp only at hT); go_simp; try with_reducible rfl)
     try simp only [Act.put, List.setIfInBounds_toArray, List.set_cons_zero, List.set_cons_succ]
     refine wpAnyH_take (i := 14) (v := ?_) (by simp only [List.getElem?_toArray, List.getElem?_cons_succ, List.getElem?_cons_zero]; rfl) (by kernel_rfl) (by kernel_rfl) (by kernel_rfl) (by intro _ _ _ h; exact h) (Or.inl ⟨by rfl, ?_⟩) (by assumption) ?_
     rotate_left
     focus (intro wT hT; (try dsimp only at hT); go_simp; try with_reducible rfl)
     try simp only [Act.put, List.setIfInBounds_toArray, List.set_cons_zero, List.set_cons_succ]
     refine wpAnyH_take (i := 15) (v := ?_) (by simp only [List.getElem?_toArray, List.getElem?_cons_succ, List.getElem?_cons_zero]; rfl) (by kernel_rfl) (by kernel_rfl) (by kernel_rfl) (by intro _ _ _ h; exact h) (Or.inl ⟨by rfl, ?_⟩) (by assumption) ?_
     rotate_left
     focus (intro wT hT; (try dsimp only at hT); go_simp; try with_reducible rfl)
     try simp only [Act.put, List.setIfInBounds_toArray, List.set_cons_zero, List.set_cons_succ]
     refine wpAnyH_take (i := 16) (v := ?_) (by simp only [List.getElem?_toArray, List.getElem?_cons_succ, List.getElem?_cons_zero]; rfl) (by kernel_rfl) (by kernel_rfl) (by kernel_rfl) (by intro _ _ _ h; exact h) (Or.inl ⟨by rfl, ?_⟩) (by assumption) ?_
     rotate_left
     focus (intro wT hT; (try dsimp only at hT); go_simp; try with_reducible rfl)
     try simp only [Act.put, List.setIfInBounds_toArray, List.set_cons_zero, List.set_cons_succ]
     refine wpAnyH_take (i := 17) (v := ?_) (by simp only [List.getElem?_toArray, List.getElem?_cons_succ, List.getElem?_cons_zero]; rfl) (by kernel_rfl) (by kernel_rfl) (by kernel_rfl) (by intro _ _ _ h; exact h) (Or.inl ⟨by rfl, ?_⟩) (by assumption) ?_
     rotate_left
     focus (intro wT hT; (try dsimp only at hT); go_simp; try with_reducible rfl)
     try simp only [Act.put, List.setIfInBounds_toArray, List.set_cons_zero, List.set_cons_succ]
     refine wpAnyH_take (i := 18) (v := ?_) (by simp only [List.getElem?_toArray, List.getElem?_cons_succ, List.getElem?_cons_zero]; rfl) (by kernel_rfl) (by kernel_rfl) (by kernel_rfl) (by intro _ _ _ h; exact h) (Or.inl ⟨by rfl, ?_⟩) (by assumption) ?_
     rotate_left
     focus (intro wT hT; (try dsimp only at hT); go_simp; try with_reducible rfl)
     try simp only [Act.put, List.setIfInBounds_toArray, List.set_cons_zero, List.set_cons_succ]
     refine wpAnyH_take (i := 19) (v := ?_) (by simp only [List.getElem?_toArray, List.getElem?_cons_succ, List.getElem?_cons_zero]; rfl) (by kernel_rfl) (by kernel_rfl) (by kernel_rfl) (by intro _ _ _ h; exact h) (Or.inl ⟨by rfl, ?_⟩) (by assumption) ?_
     rotate_left
     focus (intro wT hT; (try dsimp only at hT); go_simp; try with_reducible rfl)
     try simp only [Act.put, List.setIfInBounds_toArray, List.set_cons_zero, List.set_cons_succ]
     refine wpAnyH_ready (rs := [20]) (by kernel_rfl) (by simp) (AllReadyH.cons (by simp only [List.getElem?_toArray, List.getElem?_cons_succ, List.getElem?_cons_zero]; rfl) (fun K hK => ?_) AllReadyH.nil)
     go_simp
     refine hK.out _ _ (by exact HXA.out.cell (i := 6) rfl) (fun hHe2 => ?_)
     clear hK K
     try simp only [Act.put, List.setIfInBounds_toArray, List.set_cons_zero, List.set_cons_succ]
     refine wpAnyH_ready (rs := [21]) (by kernel_rfl) (by simp) (AllReadyH.cons (by simp only [List.getElem?_toArray, List.getElem?_cons_succ, List.getElem?_cons_zero]; rfl) (fun K hK => ?_) AllReadyH.nil)
     refine step_appw tyBytes (by rfl) _ _ (by rfl) w.heap.size (.slice ua N uc) N _ (by rfl) HOA.out HZA.out (.slice (some ⟨wr.heap.size, 0, none⟩) 4 4) 4 [.int .u8 (tg / 16777216 % 256), .int .u8 (tg / 65536 % 256), .int .u8 (tg / 256 % 256), .int .u8 (tg % 256)] (by rfl) HSR.out (by rfl) (by simp [Value.oneCell']) (by omega) ?_
     intro v' w2 hown2 hgrow2 hlies2
     obtain ⟨ub, ud, rfl, hud⟩ := hown2.form
     have HBN := Lib.hid (belowK_grown HBA.out hgrow2 HZA.out (fun q hq => (HOA.out.lt q hq).1))
     have hbx2 := HXA.out.touch (Touch.of_grown (S := fun q => (Value.slice ua N uc).ownBlock = some q) hgrow2 (fun k hk => hk)) (fun hq => HXA.out.neOwn HOA.out (by decide) _ hq rfl)
     have HBX2 := Lib.hid hbx2
     refine hK.out _ _ (by exact hbx2.cell (i := 6) rfl) (fun hHe3 => ?_)
     clear hK K
     try simp only [Act.put, List.setIfInBounds_toArray, List.set_cons_zero, List.set_cons_succ]
     refine wpAnyH_take (i := 22) (v := ?_) (by simp only [List.getElem?_toArray, List.getElem?_cons_succ, List.getElem?_cons_zero]; rfl) (by kernel_rfl) (by kernel_rfl) (by kernel_rfl) (by intro _ _ _ h; exact h) (Or.inl ⟨by rfl, ?_⟩) (by assumption) ?_
     rotate_left
     focus (intro wT hT; (try dsimp only at hT); go_simp; try with_reducible rfl)
     try simp only [Act.put, List.setIfInBounds_toArray, List.set_cons_zero, List.set_cons_succ]
     refine wpAnyH_done (by kernel_rfl) ?_ _
     have HON := Lib.hid (show OwnWin w2 w.heap.size 5 1 (.slice ub (N + 4) ud) (N + 4) (bvals (outK ⟨ta, tb, tc, td, te, tf, tg, th⟩ (6 + 1))) by rw [outK_next ⟨ta, tb, tc, td, te, tf, tg, th⟩ 6 (by omega), ← bvals_append, show (stL ⟨ta, tb, tc, td, te, tf, tg, th⟩).getD 6 0 = tg from rfl, word4_vals]; exact hown2)
     clear hown2 hgrow2 hlies2 hbx2
     go_wp2_with fail
     go_roundg (gk - 1)
     case rel => exact ⟨7, 7, N + 4, ub, ud, rfl, by omega, Lib.hid (by have := HQ.out; omega), by go_num, rfl, Lib.hid (by have := HN.out; omega), HON.out, HBX2.out, HBN.out⟩
     case measure => have := HQ.out; omega
    ·clear hk8 hki
     have c7 : wr.cell? ⟨w.heap.size, 7, none⟩ = some (.int .u32 th) := HBX.out.cell (i := 7) rfl
     have hz := HBX.out.lt
     have hbd : Below wr.heap.size wr (wr.drew.alloc (.cells #[.int .u8 (th / 16777216 % 256), .int .u8 (th / 65536 % 256), .int .u8 (th / 256 % 256), .int .u8 (th % 256)] 5)) := ((Below.refl wr.heap.size wr).drew).alloc (Nat.le_refl _) _
     have HOA := Lib.hid (HOW.out.older hbd)
     have HBA := Lib.hid (HBW.out.trans (hbd.mono HBW.out.size))
     have HXA := Lib.hid (HBX.out.older hbd)
     have HZA := Lib.hid HBA.out.size
     have HSR := Lib.hid (show SrcAt (wr.drew.alloc (.cells #[.int .u8 (th / 16777216 % 256), .int .u8 (th / 65536 % 256), .int .u8 (th / 256 % 256), .int .u8 (th % 256)] 5)) (.slice (some ⟨wr.heap.size, 0, none⟩) 4 4) 4 [.int .u8 (th / 16777216 % 256), .int .u8 (th / 65536 % 256), .int .u8 (th / 256 % 256), .int .u8 (th % 256)] from srcMany (heap_alloc_new wr.drew _))
     clear hbd
     go_wp2_with fail
     refine wp_region_held_drew (S := fun w' => w'.cell? ⟨w.heap.size, 7, none⟩ = some (.int .u32 th)) (by kernel_rfl) (by exact c7) (fun hHeld => ?_)
     refine wpAnyH_take (i := 0) (v := ?_) (by simp only [List.getElem?_toArray, List.getElem?_cons_succ, List.getElem?_cons_zero]; rfl) (by kernel_rfl) (by kernel_rfl) (by kernel_rfl) (by intro _ _ _ h; exact h) (Or.inl ⟨by rfl, ?_⟩) (by assumption) ?_
     rotate_left
     focus (intro wT hT; (try dsimp only at hT); go_simp; try with_reducible rfl)
     try simp only [Act.put, List.setIfInBounds_toArray, List.set_cons_zero, List.set_cons_succ]
     refine wpAnyH_take (i := 1) (v := ?_) (by simp only [List.getElem?_toArray, List.getElem?_cons_succ, List.getElem?_cons_zero]; rfl) (by kernel_rfl) (by kernel_rfl) (by kernel_rfl) (by intro _ _ _ h; exact h) (Or.inl ⟨by rfl, ?_⟩) (by assumption) ?_
     rotate_left
     focus (intro wT hT; (try dsimp only at hT); go_simp; try with_reducible rfl)
     try simp only [Act.put, List.setIfInBounds_toArray, List.set_cons_zero, List.set_cons_succ]
     refine wpAnyH_take (i := 2) (v := ?_) (by simp only [List.getElem?_toArray, List.getElem?_cons_succ, List.getElem?_cons_zero]; rfl) (by kernel_rfl) (by kernel_rfl) (by kernel_rfl) (by intro _ _ _ h; exact h) (Or.inl ⟨by rfl, ?_⟩) (by assumption) ?_
     rotate_left
     focus (intro wT hT; (try dsimp only at hT); go_simp; try with_reducible rfl)
     try simp only [Act.put, List.setIfInBounds_toArray, List.set_cons_zero, List.set_cons_succ]
     refine wpAnyH_take (i := 3) (v := ?_) (by simp only [List.getElem?_toArray, List.getElem?_cons_succ, List.getElem?_cons_zero]; rfl) (by kernel_rfl) (by kernel_rfl) (by kernel_rfl) (by intro _ _ _ h; exact h) (Or.inl ⟨by rfl, ?_⟩) (by assumption) ?_
     rotate_left
     focus (intro wT hT; (try dsimp only at hT); go_simp; try with_reducible rfl)
     try simp only [Act.put, List.setIfInBounds_toArray, List.set_cons_zero, List.set_cons_succ]
     refine wpAnyH_take (i := 4) (v := ?_) (by simp only [List.getElem?_toArray, List.getElem?_cons_succ, List.getElem?_cons_zero]; rfl) (by kernel_rfl) (by kernel_rfl) (by kernel_rfl) (by intro _ _ _ h; exact h) (Or.inl ⟨by rfl, ?_⟩) (by assumption) ?_
     rotate_left
     focus (intro wT hT; (try dsimp only at hT); go_simp; try with_reducible rfl)
     try simp only [Act.put, List.setIfInBounds_toArray, List.set_cons_zero, List.set_cons_succ]
     refine wpAnyH_take (i := 5) (v := ?_) (by simp only [List.getElem?_toArray, List.getElem?_cons_succ, List.getElem?_cons_zero]; rfl) (by kernel_rfl) (by kernel_rfl) (by kernel_rfl) (by intro _ _ _ h; exact h) (Or.inl ⟨by rfl, ?_⟩) (by assumption) ?_
     rotate_left
     focus (intro wT hT; (try dsimp only at hT); go_simp; try with_reducible rfl)
     try simp only [Act.put, List.setIfInBounds_toArray, List.set_cons_zero, List.set_cons_succ]
     refine wpAnyH_take (i := 6) (v := ?_) (by simp only [List.getElem?_toArray, List.getElem?_cons_succ, List.getElem?_cons_zero]; rfl) (by kernel_rfl) (by kernel_rfl) (by kernel_rfl) (by intro _ _ _ h; exact h) (Or.inl ⟨by rfl, ?_⟩) (by assumption) ?_
     rotate_left
     focus (intro wT hT; (try dsimp only at hT); go_simp; try with_reducible rfl)
     try simp only [Act.put, List.setIfInBounds_toArray, List.set_cons_zero, List.set_cons_succ]
     refine wpAnyH_take (i := 7) (v := ?_) (by simp only [List.getElem?_toArray, List.getElem?_cons_succ, List.getElem?_cons_zero]; rfl) (by kernel_rfl) (by kernel_rfl) (by kernel_rfl) (by intro _ _ _ h; exact h) (Or.inl ⟨by rfl, ?_⟩) (by assumption) ?_
     rotate_left
     focus (intro wT hT; (try dsimp only at hT); go_simp; try with_reducible rfl)
     try simp only [Act.put, List.setIfInBounds_toArray, List.set_cons_zero, List.set_cons_succ]
     refine wpAnyH_take (i := 8) (v := ?_) (by simp only [List.getElem?_toArray, List.getElem?_cons_succ, List.getElem?_cons_zero]; rfl) (by kernel_rfl) (by kernel_rfl) (by kernel_rfl) (by intro _ _ _ h; exact h) (Or.inl ⟨by rfl, ?_⟩) (by assumption) ?_
     rotate_left
     focus (intro wT hT; (try dsimp only at hT); go_simp; try with_reducible rfl)
     try simp only [Act.put, List.setIfInBounds_toArray, List.set_cons_zero, List.set_cons_succ]
     refine wpAnyH_take (i := 9) (v := ?_) (by simp only [List.getElem?_toArray, List.getElem?_cons_succ, List.getElem?_cons_zero]; rfl) (by kernel_rfl) (by kernel_rfl) (by kernel_rfl) (by intro _ _ _ h; exact h) (Or.inl ⟨by rfl, ?_⟩) (by assumption) ?_
     rotate_left
     focus (intro wT hT; (try dsimp only at hT); go_simp; try with_reducible rfl)
     try simp only [Act.put, List.setIfInBounds_toArray, List.set_cons_zero, List.set_cons_succ]
     refine wpAnyH_take (i := 10) (v := ?_) (by simp only [List.getElem?_toArray, List.getElem?_cons_succ, List.getElem?_cons_zero]; rfl) (by kernel_rfl) (by kernel_rfl) (by kernel_rfl) (by intro _ _ _ h; exact h) (Or.inl ⟨by rfl, ?_⟩) (by assumption) ?_
     rotate_left
     focus (intro wT hT; (try dsimp only at hT); go_simp; try with_reducible rfl)
     try simp only [Act.put, List.setIfInBounds_toArray, List.set_cons_zero, List.set_cons_succ]
     refine wpAnyH_take (i := 11) (v := ?_) (by simp only [List.getElem?_toArray, List.getElem?_cons_succ, List.getElem?_cons_zero]; rfl) (by kernel_rfl) (by kernel_rfl) (by kernel_rfl) (by intro _ _ _ h; exact h) (Or.inl ⟨by rfl, ?_⟩) (by assumption) ?_
     rotate_left
     focus (intro wT hT; (try dsimp only at hT); go_simp; try with_reducible rfl)
     try simp only [Act.put, List.setIfInBounds_toArray, List.set_cons_zero, List.set_cons_succ]
     refine wpAnyH_take (i := 12) (v := ?_) (by simp only [List.getElem?_toArray, List.getElem?_cons_succ, List.getElem?_cons_zero]; rfl) (by kernel_rfl) (by kernel_rfl) (by kernel_rfl) (by intro _ _ _ h; exact h) (Or.inl ⟨by rfl, ?_⟩) (by assumption) ?_
     rotate_left
     focus (intro wT hT; (try dsimp only at hT); go_simp; try with_reducible rfl)
     try simp only [Act.put, List.setIfInBounds_toArray, List.set_cons_zero, List.set_cons_succ]
     refine wpAnyH_take (i := 13) (v := ?_) (by simp only [List.getElem?_toArray, List.getElem?_cons_succ, List.getElem?_cons_zero]; rfl) (by kernel_rfl) (by kernel_rfl) (by kernel_rfl) (by intro _ _ _ h; exact h) (Or.inl ⟨by rfl, ?_⟩) (by assumption) ?_
     rotate_left
     focus (intro wT hT; (try dsimp only at hT); go_simp; try with_reducible rfl)
     try simp only [Act.put, List.setIfInBounds_toArray, List.set_cons_zero, List.set_cons_succ]
     refine wpAnyH_take (i := 14) (v := ?_) (by simp only [List.getElem?_toArray, List.getElem?_cons_succ, List.getElem?_cons_zero]; rfl) (by kernel_rfl) (by kernel_rfl) (by kernel_rfl) (by intro _ _ _ h; exact h) (Or.inl ⟨by rfl, ?_⟩) (by assumption) ?_
     rotate_left
     focus (intro wT hT; (try dsimp only at hT); go_simp; try with_reducible rfl)
     try simp only [Act.put, List.setIfInBounds_toArray, List.set_cons_zero, List.set_cons_succ]
     refine wpAnyH_take (i := 15) (v := ?_) (by simp only [List.getElem?_toArray, List.getElem?_cons_succ, List.getElem?_cons_zero]; rfl) (by kernel_rfl) (by kernel_rfl) (by kernel_rfl) (by intro _ _ _ h; exact h) (Or.inl ⟨by rfl, ?_⟩) (by assumption) ?_
     rotate_left
     focus (intro wT hT; (try dsimp only at hT); go_simp; try with_reducible rfl)
     try simp only [Act.put, List.setIfInBounds_toArray, List.set_cons_zero, List.set_cons_succ]
     refine wpAnyH_take (i := 16) (v := ?_) (by simp only [List.getElem?_toArray, List.getElem?_cons_succ, List.getElem?_cons_zero]; rfl) (by kernel_rfl) (by kernel_rfl) (by kernel_rfl) (by intro _ _ _ h; exact h) (Or.inl ⟨by rfl, ?_⟩) (by assumption) ?_
     rotate_left
     focus (intro wT hT; (try dsimp only at hT); go_simp; try with_reducible rfl)
     try simp only [Act.put, List.setIfInBounds_toArray, List.set_cons_zero, List.set_cons_succ]
     refine wpAnyH_take (i := 17) (v := ?_) (by simp only [List.getElem?_toArray, List.getElem?_cons_succ, List.getElem?_cons_zero]; rfl) (by kernel_rfl) (by kernel_rfl) (by kernel_rfl) (by intro _ _ _ h; exact h) (Or.inl ⟨by rfl, ?_⟩) (by assumption) ?_
     rotate_left
     focus (intro wT hT; (try dsimp only at hT); go_simp; try with_reducible rfl)
     try simp only [Act.put, List.setIfInBounds_toArray, List.set_cons_zero, List.set_cons_succ]
     refine wpAnyH_take (i := 18) (v := ?_) (by simp only [List.getElem?_toArray, List.getElem?_cons_succ, List.getElem?_cons_zero]; rfl) (by kernel_rfl) (by kernel_rfl) (by kernel_rfl) (by intro _ _ _ h; exact h) (Or.inl ⟨by rfl, ?_⟩) (by assumption) ?_
     rotate_left
     focus (intro wT hT; (try dsimp only at hT); go_simp; try with_reducible rfl)
     try simp only [Act.put, List.setIfInBounds_toArray, List.set_cons_zero, List.set_cons_succ]
     refine wpAnyH_take (i := 19) (v := ?_) (by simp only [List.getElem?_toArray, List.getElem?_cons_succ, List.getElem?_cons_zero]; rfl) (by kernel_rfl) (by kernel_rfl) (by kernel_rfl) (by intro _ _ _ h; exact h) (Or.inl ⟨by rfl, ?_⟩) (by assumption) ?_
     rotate_left
     focus (intro wT hT; (try dsimp only at hT); go_simp; try with_reducible rfl)
     try simp only [Act.put, List.setIfInBounds_toArray, List.set_cons_zero, List.set_cons_succ]
     refine wpAnyH_ready (rs := [20]) (by kernel_rfl) (by simp) (AllReadyH.cons (by simp only [List.getElem?_toArray, List.getElem?_cons_succ, List.getElem?_cons_zero]; rfl) (fun K hK => ?_) AllReadyH.nil)
     go_simp
     refine hK.out _ _ (by exact HXA.out.cell (i := 7) rfl) (fun hHe2 => ?_)
     clear hK K
     try simp only [Act.put, List.setIfInBounds_toArray, List.set_cons_zero, List.set_cons_succ]
     refine wpAnyH_ready (rs := [21]) (by kernel_rfl) (by simp) (AllReadyH.cons (by simp only [List.getElem?_toArray, List.getElem?_cons_succ, List.getElem?_cons_zero]; rfl) (fun K hK => ?_) AllReadyH.nil)
     refine step_appw tyBytes (by rfl) _ _ (by rfl) w.heap.size (.slice ua N uc) N _ (by rfl) HOA.out HZA.out (.slice (some ⟨wr.heap.size, 0, none⟩) 4 4) 4 [.int .u8 (th / 16777216 % 256), .int .u8 (th / 65536 % 256), .int .u8 (th / 256 % 256), .int .u8 (th % 256)] (by rfl) HSR.out (by rfl) (by simp [Value.oneCell']) (by omega) ?_
     intro v' w2 hown2 hgrow2 hlies2
     obtain ⟨ub, ud, rfl, hud⟩ := hown2.form
     have HBN := Lib.hid (belowK_grown HBA.out hgrow2 HZA.out (fun q hq => (HOA.out.lt q hq).1))
     have hbx2 := HXA.out.touch (Touch.of_grown (S := fun q => (Value.slice ua N uc).ownBlock = some q) hgrow2 (fun k hk => hk)) (fun hq => HXA.out.neOwn HOA.out (by decide) _ hq rfl)
     have HBX2 := Lib.hid hbx2
     refine hK.out _ _ (by exact hbx2.cell (i := 7) rfl) (fun hHe3 => ?_)
     clear hK K
     try simp only [Act.put, List.setIfInBounds_toArray, List.set_cons_zero, List.set_cons_succ]
     refine wpAnyH_take (i := 22) (v := ?_) (by simp only [List.getElem?_toArray, List.getElem?_cons_succ, List.getElem?_cons_zero]; rfl) (by kernel_rfl) (by kernel_rfl) (by kernel_rfl) (by intro _ _ _ h; exact h) (Or.inl ⟨by rfl, ?_⟩) (by assumption) ?_
     rotate_left
     focus (intro wT hT; (try dsimp only at hT); go_simp; try with_reducible rfl)
     try simp only [Act.put, List.setIfInBounds_toArray, List.set_cons_zero, List.set_cons_succ]
     refine wpAnyH_done (by kernel_rfl) ?_ _
     have HON := Lib.hid (show OwnWin w2 w.heap.size 5 1 (.slice ub (N + 4) ud) (N + 4) (bvals (outK ⟨ta, tb, tc, td, te, tf, tg, th⟩ (7 + 1))) by rw [outK_next ⟨ta, tb, tc, td, te, tf, tg, th⟩ 7 (by omega), ← bvals_append, show (stL ⟨ta, tb, tc, td, te, tf, tg, th⟩).getD 7 0 = th from rfl, word4_vals]; exact hown2)
     clear hown2 hgrow2 hlies2 hbx2
     go_wp2_with fail
     go_roundg (gk - 1)
     case rel => exact ⟨8, 8, N + 4, ub, ud, rfl, by omega, Lib.hid (by have := HQ.out; omega), by go_num, rfl, Lib.hid (by have := HN.out; omega), HON.out, HBX2.out, HBN.out⟩
     case measure => have := HQ.out; omega
    ·clear hk8 hki
     obtain rfl : N = 32 := by have := HN.out; omega
     go_wp2_with fail
     go_ret
     exact ⟨ua, uc, rfl, by rw [← HF.out, ← outK_all]; exact HOW.out, HBW.out⟩
end Dg
end Go.Proofs.YtpkhbhdidkkebaaGreatDoor
end

