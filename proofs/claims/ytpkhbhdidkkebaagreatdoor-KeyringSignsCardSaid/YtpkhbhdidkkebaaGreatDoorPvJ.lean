/- Contracts and plain facts that the statement's proof leans on (texts joined). No condition beyond those that each names. -/
import Derived.Test.YtpkhbhdidkkebaaGreatDoorPvI
section
namespace Go.Proofs.YtpkhbhdidkkebaaGreatDoor
open Go.RowKit Pl Ad
set_option maxRecDepth 100000
set_option maxHeartbeats 4000000
set_option linter.unusedVariables false
set_option linter.unusedSimpArgs false
namespace Dg
open Kr
/-- The table of the digest. -/
structure ConstAt (w : World) : Prop where
 lt : 0 < w.heap.size
 cell : ∀ t, t < 64 → w.cell? ⟨0, t, none⟩ = some (.int .u32 (kAt t))
theorem ConstAt.below {w w' : World} (h : ConstAt w) (hb : Below w.heap.size w w') : ConstAt w' :=
 ⟨Nat.lt_of_lt_of_le h.lt hb.size, fun t ht => (hb.cell (p := ⟨_, t, none⟩) h.lt).trans (h.cell t ht)⟩
/-- A block of bytes that is read. -/
structure BlkAt (w : World) (b : Bs) (g o : Nat) : Prop where
 len : b.length = 64
 lt : g < w.heap.size
 cell : ∀ (i : Nat) (h : i < b.length), w.cell? ⟨g, o + i, none⟩ = some (.int .u8 (b[i].toNat : Int))
/-- Within mix: the blocks and what they hold. -/
structure MixS (w0 w : World) (b : Bs) (s : St) (p q r t : Nat) (cp : Array Value) : Prop where
 bel : Below w0.heap.size w0 w
 pb : Bx w p 155 cp
 qb : Bx w q 187 (wvals (schedL b 64))
 rb : Bx w r 155 (stV s)
 tb : Bx w t 155 (wvals (List.replicate 8 0))
 ca : ConstAt w
theorem MixS.older {w0 w w' : World} {b : Bs} {s : St} {p q r t : Nat} {cp : Array Value} (h : MixS w0 w b s p q r t cp) (hb : Below w.heap.size w w') : MixS w0 w' b s p q r t cp :=
 ⟨h.bel.trans (hb.mono h.bel.size), h.pb.older hb, h.qb.older hb, h.rb.older hb, h.tb.older hb, h.ca.below hb⟩
theorem bx_setRow {w : World} {g T : Nat} {cs cs' : Array Value} (h : Bx w g T cs) : Bx (w.setRow g cs') g T cs' := setRow_heap w g cs cs' T _ h
theorem bx_setRowO {w : World} {g k T : Nat} {cs cs' : Array Value} (h : Bx w k T cs) (hk : ¬ k = g) : Bx (w.setRow g cs') k T cs := (setRow_other w g k cs' hk).trans h
theorem cell_setRowO {w : World} {g k i : Nat} {cs' : Array Value} (hk : ¬ k = g) : (w.setRow g cs').cell? ⟨k, i, none⟩ = w.cell? ⟨k, i, none⟩ := World.cell?_of_block (setRow_other w g k cs' hk)
theorem MixS.put {w0 w : World} {b : Bs} {s : St} {p q r t : Nat} {cp : Array Value} (h : MixS w0 w b s p q r t cp) (hw : w0.heap.size ≤ p) (hg : 0 < w0.heap.size) (hq : ¬ q = p) (hr : ¬ r = p) (ht : ¬ t = p) (cs' : Array Value) : MixS w0 (w.setRow p cs') b s p q r t cs' :=
 ⟨below_setRow h.bel hw _, bx_setRow h.pb, bx_setRowO h.qb hq, bx_setRowO h.rb hr, bx_setRowO h.tb ht, ⟨by rw [size_setRow]; exact h.ca.lt, fun i hi => (cell_setRowO (by omega)).trans (h.ca.cell i hi)⟩⟩
theorem MixS.put1 {w0 w : World} {b : Bs} {s : St} {p q r t : Nat} {cp : Array Value} (h : MixS w0 w b s p q r t cp) (hw : w0.heap.size ≤ p) (hg : 0 < w0.heap.size) (hq : ¬ q = p) (hr : ¬ r = p) (ht : ¬ t = p) (i : Nat) (v : Value) : MixS w0 (w.setCell ⟨p, i, none⟩ v) b s p q r t (cp.setIfInBounds i v) :=
 ⟨h.bel.setCell (p := ⟨p, i, none⟩) hw v, h.pb.set i v, h.qb.touch (touch_set1 _ _ _ _) hq, h.rb.touch (touch_set1 _ _ _ _) hr, h.tb.touch (touch_set1 _ _ _ _) ht, ⟨by have := h.ca.lt; simp [World.setCell]; omega, fun j hj => by
  have hb := (Touch.cell (S := fun k => k = p) (touch_set1 w p i v) (h.ca.cell j hj) (show ¬ 0 = p by omega))
  exact hb⟩⟩
theorem mix_any (b : Bs) (s : St) (g o c : Nat) (w : World) (hk : BlkAt w b g o) (hc : ConstAt w) :
 Calls Tryz.prog 94 #[.agg (stV s), .slice (some ⟨g, o, none⟩) 64 c] w fun e w' => e = .returned (.agg (stV (mixM s b))) ∧ Below w.heap.size w w' := by
 have hgc := hc.lt
 obtain ⟨sa, sb, sc, sd, se, sf, sg, sh⟩ := s
 have hs2 : (w.alloc (.cells (stV ⟨sa, sb, sc, sd, se, sf, sg, sh⟩) 155)).heap.size = w.heap.size + 1 := by simp
 have hb2 := ((Below.refl w.heap.size w).alloc (Nat.le_refl _) (.cells (stV ⟨sa, sb, sc, sd, se, sf, sg, sh⟩) 155)).alloc (by simp) (.cells (wvals (List.replicate 8 0)) 155)
 have HR2 := Lib.hid ((Bx.new w 155 (stV ⟨sa, sb, sc, sd, se, sf, sg, sh⟩)).older ((Below.refl _ _).alloc (Nat.le_refl _) (.cells (wvals (List.replicate 8 0)) 155)))
 have ht2 := Bx.new (w.alloc (.cells (stV ⟨sa, sb, sc, sd, se, sf, sg, sh⟩) 155)) 155 (wvals (List.replicate 8 0))
 rw [hs2] at ht2
 have HT2 := Lib.hid ht2
 have HB2 := Lib.hid hb2
 have HK2 := Lib.hid (show BlkAt _ b g o from ⟨hk.len, Nat.lt_of_lt_of_le hk.lt hb2.size, fun i h => (hb2.cell (p := ⟨g, o + i, none⟩) hk.lt).trans (hk.cell i h)⟩)
 have HC2 := Lib.hid (hc.below hb2)
 have hi : (Tryz.prog.info? 187).map (·.size) = some (wvals (schedL b 64)).size := by rw [wvals_size, schedL_len]; kernel_rfl
 have HI := Lib.hid hi
 have HI8 : Hid (∀ cs : Array Value, cs.size = 8 → (Tryz.prog.info? 155).map (·.size) = some cs.size) := Lib.hid (fun cs h => by rw [h]; kernel_rfl)
 clear ht2 hb2 hk hc hi hs2
 go_enter Tryz.func94, Tryz.ntmps94
 go_wp2_with (first
  | (go_at_call 133; refine (sched_any b g o c _ HK2.out.len HK2.out.cell HK2.out.lt).mono ?_; rintro e w1 ⟨rfl, hb1⟩; have HR1 := Lib.hid (HR2.out.older hb1); have HT1 := Lib.hid (HT2.out.older hb1); have HB1 := Lib.hid (HB2.out.trans (hb1.mono HB2.out.size)); have HC1 := Lib.hid (HC2.out.below hb1); clear hb1)
  | (refine wpList_store_rowTo rfl 187 _ _ rfl rfl w1.heap.size (wvals (schedL b 64)) rfl rfl 187 _ (heap_alloc_new w1 _) HI.out (by rw [wvals_size, schedL_len]; rfl) (wvals_one _) ?_; rw [World.setRow_alloc_new]; have r0 := HR1.out.lt; have hb4 := (Below.refl w1.heap.size w1).alloc (Nat.le_refl _) (.cells (wvals (schedL b 64)) 187); have c0 : World.cell? _ ⟨w.heap.size, 0, none⟩ = some (.int .u32 sa) := (HR1.out.older hb4).cell (i := 0) rfl; have c1 : World.cell? _ ⟨w.heap.size, 1, none⟩ = some (.int .u32 sb) := (HR1.out.older hb4).cell (i := 1) rfl; have c2 : World.cell? _ ⟨w.heap.size, 2, none⟩ = some (.int .u32 sc) := (HR1.out.older hb4).cell (i := 2) rfl; have c3 : World.cell? _ ⟨w.heap.size, 3, none⟩ = some (.int .u32 sd) := (HR1.out.older hb4).cell (i := 3) rfl; have c4 : World.cell? _ ⟨w.heap.size, 4, none⟩ = some (.int .u32 se) := (HR1.out.older hb4).cell (i := 4) rfl; have c5 : World.cell? _ ⟨w.heap.size, 5, none⟩ = some (.int .u32 sf) := (HR1.out.older hb4).cell (i := 5) rfl; have c6 : World.cell? _ ⟨w.heap.size, 6, none⟩ = some (.int .u32 sg) := (HR1.out.older hb4).cell (i := 6) rfl; have c7 : World.cell? _ ⟨w.heap.size, 7, none⟩ = some (.int .u32 sh) := (HR1.out.older hb4).cell (i := 7) rfl; clear hb4))
 have hb5 := ((Below.refl w1.heap.size w1).alloc (Nat.le_refl _) (.cells (wvals (schedL b 64)) 187)).alloc (by simp) (.cells (stV ⟨sa, sb, sc, sd, se, sf, sg, sh⟩) 155)
 have hs5 : (w1.alloc (.cells (wvals (schedL b 64)) 187)).heap.size = w1.heap.size + 1 := by simp
 have hp5 := Bx.new (w1.alloc (.cells (wvals (schedL b 64)) 187)) 155 (stV ⟨sa, sb, sc, sd, se, sf, sg, sh⟩)
 rw [hs5] at hp5
 have hz1 := HB1.out.size
 have hq1 := HT1.out.lt
 have HM0 := Lib.hid (show MixS w _ b ⟨sa, sb, sc, sd, se, sf, sg, sh⟩ (w1.heap.size + 1) w1.heap.size w.heap.size (w.heap.size + 1) (stV (roundsM (schedL b 64) ⟨sa, sb, sc, sd, se, sf, sg, sh⟩ 0)) from ⟨HB1.out.trans (hb5.mono hz1), hp5, (Bx.new w1 _ _).older ((Below.refl _ _).alloc (Nat.le_refl _) (.cells (stV ⟨sa, sb, sc, sd, se, sf, sg, sh⟩) 155)), HR1.out.older hb5, HT1.out.older hb5, HC1.out.below hb5⟩)
 clear hb5 hs5 hp5 c0 c1 c2 c3 c4 c5 c6 c7 r0
 obtain ⟨p, hp⟩ : ∃ p, w1.heap.size + 1 = p := ⟨_, rfl⟩
 obtain ⟨q, hq⟩ : ∃ q, w1.heap.size = q := ⟨_, rfl⟩
 have HPQ := Lib.hid (show w.heap.size ≤ p ∧ ¬ q = p ∧ ¬ w.heap.size = p ∧ ¬ w.heap.size + 1 = p by omega)
 rw [hp, hq] at HM0
 rw [hp, hq]
 clear hp hq
 go_loopg [16, 7, 8, 9, 10, 11] 64 (fun gq iv s7 s8 s9 s10 s11 wr => ∃ k : Nat, iv = .int .i64 k ∧ k ≤ 64 ∧ Hid (64 ≤ gq + k) ∧ MixS w wr b ⟨sa, sb, sc, sd, se, sf, sg, sh⟩ p q w.heap.size (w.heap.size + 1) (stV (roundsM (schedL b 64) ⟨sa, sb, sc, sd, se, sf, sg, sh⟩ k)))
 case atStart => exact ⟨0, rfl, Nat.zero_le _, Lib.hid (by omega), HM0.out⟩
 case round =>
  obtain ⟨k, rfl, hk, HQ, hm⟩ := hrel
  clear HM0
  have HM := Lib.hid hm
  clear hm
  by_cases hlt : k < 64
  ·obtain ⟨v, hv⟩ : ∃ v, roundsM (schedL b 64) ⟨sa, sb, sc, sd, se, sf, sg, sh⟩ k = v := ⟨_, rfl⟩
   have HV := Lib.hid hv
   rw [hv] at HM
   clear hv
   obtain ⟨va, vb, vc, vd, ve, vf, vg, vh⟩ := v
   have c0 : wr.cell? ⟨p, 0, none⟩ = some (.int .u32 va) := HM.out.pb.cell (i := 0) rfl
   have c1 : wr.cell? ⟨p, 1, none⟩ = some (.int .u32 vb) := HM.out.pb.cell (i := 1) rfl
   have c2 : wr.cell? ⟨p, 2, none⟩ = some (.int .u32 vc) := HM.out.pb.cell (i := 2) rfl
   have c3 : wr.cell? ⟨p, 3, none⟩ = some (.int .u32 vd) := HM.out.pb.cell (i := 3) rfl
   have c4 : wr.cell? ⟨p, 4, none⟩ = some (.int .u32 ve) := HM.out.pb.cell (i := 4) rfl
   have c5 : wr.cell? ⟨p, 5, none⟩ = some (.int .u32 vf) := HM.out.pb.cell (i := 5) rfl
   have c6 : wr.cell? ⟨p, 6, none⟩ = some (.int .u32 vg) := HM.out.pb.cell (i := 6) rfl
   have c7 : wr.cell? ⟨p, 7, none⟩ = some (.int .u32 vh) := HM.out.pb.cell (i := 7) rfl
   have hz := HM.out.pb.lt
   have hzq := HM.out.qb.lt
   have hzc := HM.out.ca.lt
   have hkk := HM.out.ca.cell k hlt
   have hww := HM.out.qb.cell (i := k) (wvals_at (by rw [schedL_len]; exact hlt))
   rw [show (schedL b 64).getD k 0 = wAt (schedL b 64) k from rfl] at hww
   obtain ⟨kx, hkx⟩ : ∃ x, kAt k = x := ⟨_, rfl⟩
   obtain ⟨wx, hwx⟩ : ∃ x, wAt (schedL b 64) k = x := ⟨_, rfl⟩
   have HKW := Lib.hid (And.intro hkx hwx)
   rw [hkx] at hkk
   rw [hwx] at hww
   clear hkx hwx
   have hk0 : (0 : Int) ≤ (k : Int) := by omega
   have hk64 : (k : Int) < 64 := by omega
   go_wp2_with fail
   go_quiet (fail)
   generalize hw9 : wr.drewN nq = w2
   have hb9 : Below wr.heap.size wr w2 := by rw [← hw9]; exact below_drewN (Below.refl _ _) _
   have HM2 := Lib.hid (HM.out.older hb9)
   clear hw9 hb9 c0 c1 c2 c3 c4 c5 c6 c7 hz hzq hzc hkk hww
   have c0 : w2.cell? ⟨p, 0, none⟩ = some (.int .u32 va) := HM2.out.pb.cell (i := 0) rfl
   have c1 : w2.cell? ⟨p, 1, none⟩ = some (.int .u32 vb) := HM2.out.pb.cell (i := 1) rfl
   have c2 : w2.cell? ⟨p, 2, none⟩ = some (.int .u32 vc) := HM2.out.pb.cell (i := 2) rfl
   have c3 : w2.cell? ⟨p, 3, none⟩ = some (.int .u32 vd) := HM2.out.pb.cell (i := 3) rfl
   have c4 : w2.cell? ⟨p, 4, none⟩ = some (.int .u32 ve) := HM2.out.pb.cell (i := 4) rfl
   have c5 : w2.cell? ⟨p, 5, none⟩ = some (.int .u32 vf) := HM2.out.pb.cell (i := 5) rfl
   have c6 : w2.cell? ⟨p, 6, none⟩ = some (.int .u32 vg) := HM2.out.pb.cell (i := 6) rfl
   have c7 : w2.cell? ⟨p, 7, none⟩ = some (.int .u32 vh) := HM2.out.pb.cell (i := 7) rfl
   have hz := HM2.out.pb.lt
   have hzq := HM2.out.qb.lt
   have hzc := HM2.out.ca.lt
   have hkk := HM2.out.ca.cell k hlt
   have hww := HM2.out.qb.cell (i := k) (wvals_at (by rw [schedL_len]; exact hlt))
   rw [HKW.out.1] at hkk
   rw [show (schedL b 64).getD k 0 = wAt (schedL b 64) k from rfl, HKW.out.2] at hww
   go_wp2_with fail
   go_quiet ((go_at_call 134; exact quiet_eq (dRotr _ _ _ (by decide))))
   generalize hw9 : w2.drewN nq = w3
   have hb9 : Below w2.heap.size w2 w3 := by rw [← hw9]; exact below_drewN (Below.refl _ _) _
   have HM3 := Lib.hid (HM2.out.older hb9)
   clear hw9 hb9 c0 c1 c2 c3 c4 c5 c6 c7 hz hzq hzc hkk hww
   have c0 : w3.cell? ⟨p, 0, none⟩ = some (.int .u32 va) := HM3.out.pb.cell (i := 0) rfl
   have c1 : w3.cell? ⟨p, 1, none⟩ = some (.int .u32 vb) := HM3.out.pb.cell (i := 1) rfl
   have c2 : w3.cell? ⟨p, 2, none⟩ = some (.int .u32 vc) := HM3.out.pb.cell (i := 2) rfl
   have c3 : w3.cell? ⟨p, 3, none⟩ = some (.int .u32 vd) := HM3.out.pb.cell (i := 3) rfl
   have c4 : w3.cell? ⟨p, 4, none⟩ = some (.int .u32 ve) := HM3.out.pb.cell (i := 4) rfl
   have c5 : w3.cell? ⟨p, 5, none⟩ = some (.int .u32 vf) := HM3.out.pb.cell (i := 5) rfl
   have c6 : w3.cell? ⟨p, 6, none⟩ = some (.int .u32 vg) := HM3.out.pb.cell (i := 6) rfl
   have c7 : w3.cell? ⟨p, 7, none⟩ = some (.int .u32 vh) := HM3.out.pb.cell (i := 7) rfl
   have hz := HM3.out.pb.lt
   have hzq := HM3.out.qb.lt
   have hzc := HM3.out.ca.lt
   have hkk := HM3.out.ca.cell k hlt
   have hww := HM3.out.qb.cell (i := k) (wvals_at (by rw [schedL_len]; exact hlt))
   rw [HKW.out.1] at hkk
   rw [show (schedL b 64).getD k 0 = wAt (schedL b 64) k from rfl, HKW.out.2] at hww
   go_wp2_with fail
   go_quiet ((go_at_call 134; exact quiet_eq (dRotr _ _ _ (by decide))))
   generalize hw9 : w3.drewN nq = w4
   have hb9 : Below w3.heap.size w3 w4 := by rw [← hw9]; exact below_drewN (Below.refl _ _) _
   have HM4 := Lib.hid (HM3.out.older hb9)
   clear hw9 hb9 c0 c1 c2 c3 c4 c5 c6 c7 hz hzq hzc hkk hww
   have c0 : w4.cell? ⟨p, 0, none⟩ = some (.int .u32 va) := HM4.out.pb.cell (i := 0) rfl
   have c1 : w4.cell? ⟨p, 1, none⟩ = some (.int .u32 vb) := HM4.out.pb.cell (i := 1) rfl
   have c2 : w4.cell? ⟨p, 2, none⟩ = some (.int .u32 vc) := HM4.out.pb.cell (i := 2) rfl
   have c3 : w4.cell? ⟨p, 3, none⟩ = some (.int .u32 vd) := HM4.out.pb.cell (i := 3) rfl
   have c4 : w4.cell? ⟨p, 4, none⟩ = some (.int .u32 ve) := HM4.out.pb.cell (i := 4) rfl
   have c5 : w4.cell? ⟨p, 5, none⟩ = some (.int .u32 vf) := HM4.out.pb.cell (i := 5) rfl
   have c6 : w4.cell? ⟨p, 6, none⟩ = some (.int .u32 vg) := HM4.out.pb.cell (i := 6) rfl
   have c7 : w4.cell? ⟨p, 7, none⟩ = some (.int .u32 vh) := HM4.out.pb.cell (i := 7) rfl
   have hz := HM4.out.pb.lt
   have hzq := HM4.out.qb.lt
   have hzc := HM4.out.ca.lt
   have hkk := HM4.out.ca.cell k hlt
   have hww := HM4.out.qb.cell (i := k) (wvals_at (by rw [schedL_len]; exact hlt))
   rw [HKW.out.1] at hkk
   rw [show (schedL b 64).getD k 0 = wAt (schedL b 64) k from rfl, HKW.out.2] at hww
   obtain ⟨t1, ht1⟩ : ∃ t1, t1M ⟨va, vb, vc, vd, ve, vf, vg, vh⟩ kx wx = t1 := ⟨_, rfl⟩
   obtain ⟨t2, ht2⟩ : ∃ t2, t2M ⟨va, vb, vc, vd, ve, vf, vg, vh⟩ = t2 := ⟨_, rfl⟩
   rw [show (vh + bits .xor .u32 (bits .xor .u32 (rotN ve 6) (rotN ve 11)) (rotN ve 25) + bits .xor .u32 (bits .and .u32 ve vf) (bits .and .u32 (bits .xor .u32 IntKind.u32.max ve) vg) + kx + wx) % 4294967296 = t1 from ht1, show (bits .xor .u32 (bits .xor .u32 (rotN va 2) (rotN va 13)) (rotN va 22) + bits .xor .u32 (bits .xor .u32 (bits .and .u32 va vb) (bits .and .u32 va vc)) (bits .and .u32 vb vc)) % 4294967296 = t2 from ht2]
   have HST := Lib.hid (show roundsM (schedL b 64) ⟨sa, sb, sc, sd, se, sf, sg, sh⟩ (k + 1) = ⟨(t1 + t2) % 4294967296, va, vb, vc, (vd + t1) % 4294967296, ve, vf, vg⟩ by rw [roundsM, HV.out, HKW.out.1, HKW.out.2]; unfold roundM; rw [ht1, ht2])
   clear ht1 ht2
   have f0 := HM4.out.pb.frz 0
   have f1 := HM4.out.pb.frz 1
   have f2 := HM4.out.pb.frz 2
   have f3 := HM4.out.pb.frz 3
   have f4 := HM4.out.pb.frz 4
   have f5 := HM4.out.pb.frz 5
   have f6 := HM4.out.pb.frz 6
   have f7 := HM4.out.pb.frz 7
   go_wp2_with fail
   go_roundg (gk - 1)
   case rel =>
    refine ⟨k + 1, by go_num, by omega, Lib.hid (by have := HQ.out; omega), ?_⟩
    rw [HST.out]
    have m0 := HM4.out.put1 HPQ.out.1 hgc HPQ.out.2.1 HPQ.out.2.2.1 HPQ.out.2.2.2 0 (.int .u32 ((t1 + t2) % 4294967296))
    have m1 := m0.put1 HPQ.out.1 hgc HPQ.out.2.1 HPQ.out.2.2.1 HPQ.out.2.2.2 1 (.int .u32 va)
    have m2 := m1.put1 HPQ.out.1 hgc HPQ.out.2.1 HPQ.out.2.2.1 HPQ.out.2.2.2 2 (.int .u32 vb)
    have m3 := m2.put1 HPQ.out.1 hgc HPQ.out.2.1 HPQ.out.2.2.1 HPQ.out.2.2.2 3 (.int .u32 vc)
    have m4 := m3.put1 HPQ.out.1 hgc HPQ.out.2.1 HPQ.out.2.2.1 HPQ.out.2.2.2 4 (.int .u32 ((vd + t1) % 4294967296))
    have m5 := m4.put1 HPQ.out.1 hgc HPQ.out.2.1 HPQ.out.2.2.1 HPQ.out.2.2.2 5 (.int .u32 ve)
    have m6 := m5.put1 HPQ.out.1 hgc HPQ.out.2.1 HPQ.out.2.2.1 HPQ.out.2.2.2 6 (.int .u32 vf)
    have m7 := m6.put1 HPQ.out.1 hgc HPQ.out.2.1 HPQ.out.2.2.1 HPQ.out.2.2.2 7 (.int .u32 vg)
    exact m7
   case measure => have := HQ.out; omega
  ·have hk64 : k = 64 := by omega
   subst hk64
   obtain ⟨v, hv⟩ : ∃ v, roundsM (schedL b 64) ⟨sa, sb, sc, sd, se, sf, sg, sh⟩ 64 = v := ⟨_, rfl⟩
   have HV := Lib.hid hv
   rw [hv] at HM
   clear hv
   have HM0 := Lib.hid (show MixS w wr b ⟨sa, sb, sc, sd, se, sf, sg, sh⟩ p q w.heap.size (w.heap.size + 1) (wvals (sumK v ⟨sa, sb, sc, sd, se, sf, sg, sh⟩ 0)) from HM.out)
   go_wp2_with fail
   go_loopg [98, 12] 8 (fun gq iv s12 wr => ∃ k : Nat, iv = .int .i64 k ∧ k ≤ 8 ∧ Hid (8 ≤ gq + k) ∧ MixS w wr b ⟨sa, sb, sc, sd, se, sf, sg, sh⟩ p q w.heap.size (w.heap.size + 1) (wvals (sumK v ⟨sa, sb, sc, sd, se, sf, sg, sh⟩ k)))
   case atStart => exact ⟨0, rfl, Nat.zero_le _, Lib.hid (by omega), HM0.out⟩
   case round =>
    obtain ⟨k, rfl, hk, HQ, hm⟩ := hrel
    clear HM0 HM
    have HM := Lib.hid hm
    clear hm
    by_cases hlt : k < 8
    ·have d0 : wr.cell? ⟨p, k, none⟩ = some (.int .u32 ((stL v).getD k 0)) := by
      have h9 := HM.out.pb.cell (i := k) (wvals_at (by rw [sumK_len v ⟨sa, sb, sc, sd, se, sf, sg, sh⟩ k (by omega)]; exact hlt))
      rwa [sumK_at v ⟨sa, sb, sc, sd, se, sf, sg, sh⟩ hlt] at h9
     have d1 : wr.cell? ⟨w.heap.size, k, none⟩ = some (.int .u32 ((stL ⟨sa, sb, sc, sd, se, sf, sg, sh⟩).getD k 0)) := HM.out.rb.cell (i := k) (by rw [stV_eq]; exact wvals_at hlt)
     obtain ⟨x, hx⟩ : ∃ x, (stL v).getD k 0 = x := ⟨_, rfl⟩
     obtain ⟨y, hy⟩ : ∃ x, (stL ⟨sa, sb, sc, sd, se, sf, sg, sh⟩).getD k 0 = x := ⟨_, rfl⟩
     have HSK := Lib.hid (show (sumK v ⟨sa, sb, sc, sd, se, sf, sg, sh⟩ k).set k ((x + y) % 4294967296) = sumK v ⟨sa, sb, sc, sd, se, sf, sg, sh⟩ (k + 1) by rw [← hx, ← hy]; exact sumK_set v ⟨sa, sb, sc, sd, se, sf, sg, sh⟩ hlt)
     rw [hx] at d0
     rw [hy] at d1
     have f0 := HM.out.pb.frz k
     have hz := HM.out.pb.lt
     have hzr := HM.out.rb.lt
     have hk0 : (0 : Int) ≤ (k : Int) := by omega
     have hk8 : (k : Int) < 8 := by omega
     clear hx hy
     go_wp2_with fail
     go_still_tail 8, (by kernel_rfl)
     change wpList _ _ _ _ _ wr.drew
     generalize hw9 : wr.drew = w9
     have hb9 : Below wr.heap.size wr w9 := by rw [← hw9]; exact (Below.refl _ _).drew
     have HM9 := Lib.hid (HM.out.older hb9)
     clear hw9 hb9 d0 d1 f0 hz hzr
     have d0 := HM9.out.pb.cell (i := k) (wvals_at (by rw [sumK_len v ⟨sa, sb, sc, sd, se, sf, sg, sh⟩ k (by omega)]; exact hlt))
     have f0 := HM9.out.pb.frz k
     have hz := HM9.out.pb.lt
     go_wp2_with fail
     go_roundg (gk - 1)
     case rel =>
      refine ⟨k + 1, by go_num, by omega, Lib.hid (by have := HQ.out; omega), ?_⟩
      have h9 := HM9.out.put1 HPQ.out.1 hgc HPQ.out.2.1 HPQ.out.2.2.1 HPQ.out.2.2.2 k (.int .u32 ((x + y) % 4294967296))
      rw [wvals_set, HSK.out] at h9
      exact h9
     case measure => have := HQ.out; omega
    ·have hk8 : k = 8 := by omega
     subst hk8
     have HE := Lib.hid (show mixM ⟨sa, sb, sc, sd, se, sf, sg, sh⟩ b = addS v ⟨sa, sb, sc, sd, se, sf, sg, sh⟩ by unfold mixM; rw [HV.out])
     have HM8 := Lib.hid (show MixS w wr b ⟨sa, sb, sc, sd, se, sf, sg, sh⟩ p q w.heap.size (w.heap.size + 1) (stV (addS v ⟨sa, sb, sc, sd, se, sf, sg, sh⟩)) from HM.out)
     have hbf := below_setRow HM8.out.bel (Nat.le_succ w.heap.size) (stV (addS v ⟨sa, sb, sc, sd, se, sf, sg, sh⟩))
     have HBF := Lib.hid hbf
     have HXF := Lib.hid (bx_setRow (cs' := stV (addS v ⟨sa, sb, sc, sd, se, sf, sg, sh⟩)) HM8.out.tb)
     clear hbf
     go_wp2_with (first
      | (refine wpList_load_row rfl 155 _ rfl p rfl 155 (stV (addS v ⟨sa, sb, sc, sd, se, sf, sg, sh⟩)) (0, 0) _ HM8.out.pb Tryz.underlying155 rfl (HI8.out _ rfl) ?_)
      | (refine wpList_store_rowTo rfl 155 _ _ rfl rfl (w.heap.size + 1) (stV (addS v ⟨sa, sb, sc, sd, se, sf, sg, sh⟩)) rfl rfl 155 _ HM8.out.tb (HI8.out _ rfl) (by rfl) (wvals_one (stL _)) ?_))
     exact bodyPost_ret (v := .agg (stV (addS v ⟨sa, sb, sc, sd, se, sf, sg, sh⟩))) (results_cell_row Tryz.results94 _ _ (w.heap.size + 1) 155 _ (0, 0) _ rfl HXF.out Tryz.underlying155 rfl (HI8.out _ rfl)) rfl ⟨by rw [HE.out], HBF.out⟩
end Dg
end Go.Proofs.YtpkhbhdidkkebaaGreatDoor
end

