/- Contracts and plain facts that the statement's proof leans on (texts joined). No condition beyond those that each names. -/
import Derived.Deep.RegionHeld3
import Derived.OrdersHeld
import Derived.Test.YtpkhbhdidkkebaaGreatDoorPvJ
section
namespace Go.Proofs.YtpkhbhdidkkebaaGreatDoor
open Go.RowKit Pl Ad
set_option maxRecDepth 100000
set_option maxHeartbeats 4000000
set_option linter.unusedVariables false
set_option linter.unusedSimpArgs false
namespace Dg
open Kr
theorem rRotrB (x n : Int) (w : World) (h : n ∈ rots) : Calls Tryz.prog 178 #[.int .u32 x, .int .i64 n] w fun e w' => e = .returned (.int .u32 (rotN x n)) ∧ Below w.heap.size w w' :=
 (rRotr x n w h).mono fun e w' hx => ⟨hx.1, by obtain ⟨m, rfl⟩ := hx.2; exact below_drewN (Below.refl _ _) m⟩
theorem cell_other (w : World) (q : Nat) (v : Value) {i j : Nat} (h : ¬ i = j) : (w.setCell ⟨q, i, none⟩ v).cell? ⟨q, j, none⟩ = w.cell? ⟨q, j, none⟩ :=
 World.cell?_setCell_other _ _ _ _ (fun e => h (by cases e; rfl))
theorem next_mod (a b c d : Int) : (((a + b) % 4294967296 + c) % 4294967296 + d) % 4294967296 = (a + b + c + d) % 4294967296 := by simp only [Int.emod_add_emod]
/-- The first i words of the sum, then those of s. -/
def sumR (v s : St) (i : Nat) : List Int := (stL (addS v s)).take i ++ (stL s).drop i
theorem sumR_len (v s : St) (i : Nat) (h : i ≤ 8) : (sumR v s i).length = 8 := by
 unfold sumR
 rw [List.length_append, List.length_take, List.length_drop]
 simp only [stL, List.length_cons, List.length_nil]
 omega
theorem sumR_set (v s : St) {i : Nat} (h : i < 8) : (sumR v s i).set i (((stL s).getD i 0 + (stL v).getD i 0) % 4294967296) = sumR v s (i + 1) := by
 rw [Int.add_comm]
 match i, h with
 | 0, _ => rfl
 | 1, _ => rfl
 | 2, _ => rfl
 | 3, _ => rfl
 | 4, _ => rfl
 | 5, _ => rfl
 | 6, _ => rfl
 | 7, _ => rfl
theorem sumR_at (v s : St) {i : Nat} (h : i < 8) : (sumR v s i).getD i 0 = (stL s).getD i 0 := by
 match i, h with
 | 0, _ => rfl
 | 1, _ => rfl
 | 2, _ => rfl
 | 3, _ => rfl
 | 4, _ => rfl
 | 5, _ => rfl
 | 6, _ => rfl
 | 7, _ => rfl
/-- Within block: the blocks and what they hold. -/
structure BlkS (w0 w : World) (p q r t : Nat) (cp cq cr : Array Value) : Prop where
 bel : Below w0.heap.size w0 w
 pb : Bx w p 155 cp
 qb : Bx w q 187 cq
 rb : Bx w r 155 cr
 tb : Bx w t 155 (wvals (List.replicate 8 0))
theorem BlkS.older {w0 w w' : World} {p q r t : Nat} {cp cq cr : Array Value} (h : BlkS w0 w p q r t cp cq cr) (hb : Below w.heap.size w w') : BlkS w0 w' p q r t cp cq cr :=
 ⟨h.bel.trans (hb.mono h.bel.size), h.pb.older hb, h.qb.older hb, h.rb.older hb, h.tb.older hb⟩
theorem BlkS.put1 {w0 w : World} {p q r t : Nat} {cp cq cr : Array Value} (h : BlkS w0 w p q r t cp cq cr) (hw : w0.heap.size ≤ p) (hq : ¬ q = p) (hr : ¬ r = p) (ht : ¬ t = p) (i : Nat) (v : Value) : BlkS w0 (w.setCell ⟨p, i, none⟩ v) p q r t (cp.setIfInBounds i v) cq cr :=
 ⟨h.bel.setCell (p := ⟨p, i, none⟩) hw v, h.pb.set i v, h.qb.touch (touch_set1 _ _ _ _) hq, h.rb.touch (touch_set1 _ _ _ _) hr, h.tb.touch (touch_set1 _ _ _ _) ht⟩
theorem BlkS.putR {w0 w : World} {p q r t : Nat} {cp cq cr : Array Value} (h : BlkS w0 w p q r t cp cq cr) (hw : w0.heap.size ≤ r) (hp : ¬ p = r) (hq : ¬ q = r) (ht : ¬ t = r) (i : Nat) (v : Value) : BlkS w0 (w.setCell ⟨r, i, none⟩ v) p q r t cp cq (cr.setIfInBounds i v) :=
 ⟨h.bel.setCell (p := ⟨r, i, none⟩) hw v, h.pb.touch (touch_set1 _ _ _ _) hp, h.qb.touch (touch_set1 _ _ _ _) hq, h.rb.set i v, h.tb.touch (touch_set1 _ _ _ _) ht⟩
/-- While the schedule is laid. -/
structure SchS (w0 w : World) (q r t : Nat) (cq cr : Array Value) : Prop where
 bel : Below w0.heap.size w0 w
 qb : Bx w q 187 cq
 rb : Bx w r 155 cr
 tb : Bx w t 155 (wvals (List.replicate 8 0))
theorem SchS.older {w0 w w' : World} {q r t : Nat} {cq cr : Array Value} (h : SchS w0 w q r t cq cr) (hb : Below w.heap.size w w') : SchS w0 w' q r t cq cr :=
 ⟨h.bel.trans (hb.mono h.bel.size), h.qb.older hb, h.rb.older hb, h.tb.older hb⟩
theorem SchS.putQ {w0 w : World} {q r t : Nat} {cq cr : Array Value} (h : SchS w0 w q r t cq cr) (hw : w0.heap.size ≤ q) (hr : ¬ r = q) (ht : ¬ t = q) (i : Nat) (v : Value) : SchS w0 (w.setCell ⟨q, i, none⟩ v) q r t (cq.setIfInBounds i v) cr :=
 ⟨h.bel.setCell (p := ⟨q, i, none⟩) hw v, h.qb.set i v, h.rb.touch (touch_set1 _ _ _ _) hr, h.tb.touch (touch_set1 _ _ _ _) ht⟩
theorem block_any (b : Bs) (s : St) (g o c : Nat) (w : World) (hk : BlkAt w b g o) (hcap : 64 ≤ c) :
 Calls Tryz.prog 167 #[.agg (stV s), .slice (some ⟨g, o, none⟩) 64 c] w fun e w' => e = .returned (.agg (stV (mixM s b))) ∧ Below w.heap.size w w' := by
 obtain ⟨sa, sb, sc, sd, se, sf, sg, sh⟩ := s
 have hl := hk.len
 have hg := hk.lt
 have HK := Lib.hid hk
 have hs2 : (w.alloc (.cells (stV ⟨sa, sb, sc, sd, se, sf, sg, sh⟩) 155)).heap.size = w.heap.size + 1 := by simp
 have hs3 : ((w.alloc (.cells (stV ⟨sa, sb, sc, sd, se, sf, sg, sh⟩) 155)).alloc (.cells (wvals (List.replicate 8 0)) 155)).heap.size = w.heap.size + 2 := by simp
 have hr2 := Bx.new w 155 (stV ⟨sa, sb, sc, sd, se, sf, sg, sh⟩)
 have ht2 := Bx.new (w.alloc (.cells (stV ⟨sa, sb, sc, sd, se, sf, sg, sh⟩) 155)) 155 (wvals (List.replicate 8 0))
 have hq2 := Bx.new ((w.alloc (.cells (stV ⟨sa, sb, sc, sd, se, sf, sg, sh⟩) 155)).alloc (.cells (wvals (List.replicate 8 0)) 155)) 187 (wvals (List.replicate 64 0))
 rw [hs2] at ht2
 rw [hs3] at hq2
 have hal : ∀ (w : World) (o : Obj), Below w.heap.size w (w.alloc o) := fun w o => (Below.refl _ _).alloc (Nat.le_refl _) o
 have HM0 := Lib.hid (show SchS w _ (w.heap.size + 2) w.heap.size (w.heap.size + 1) (wvals (schedL b 0 ++ List.replicate (64 - 0) 0)) (stV ⟨sa, sb, sc, sd, se, sf, sg, sh⟩) from ⟨(((Below.refl w.heap.size w).alloc (Nat.le_refl _) _).alloc (by simp) _).alloc (by simp; omega) _, hq2, (hr2.older (hal _ _)).older (hal _ _), ht2.older (hal _ _)⟩)
 have HI8 : Hid (∀ cs : Array Value, cs.size = 8 → (Tryz.prog.info? 155).map (·.size) = some cs.size) := Lib.hid (fun cs h => by rw [h]; kernel_rfl)
 clear hs2 hs3 hr2 ht2 hq2 hal hk
 go_enter Tryz.func167, Tryz.ntmps167
 go_wp2_with fail
 obtain ⟨q, hq⟩ : ∃ q, w.heap.size + 2 = q := ⟨_, rfl⟩
 have HQR := Lib.hid (show w.heap.size ≤ q ∧ ¬ w.heap.size = q ∧ ¬ w.heap.size + 1 = q by omega)
 rw [hq] at HM0
 rw [hq]
 clear hq
 go_loopg [16, 6, 7, 8] 64 (fun gq iv s6 s7 s8 wr => ∃ k : Nat, iv = .int .i64 k ∧ k ≤ 64 ∧ Hid (64 ≤ gq + k) ∧ SchS w wr q w.heap.size (w.heap.size + 1) (wvals (schedL b k ++ List.replicate (64 - k) 0)) (stV ⟨sa, sb, sc, sd, se, sf, sg, sh⟩))
 case atStart => exact ⟨0, rfl, Nat.zero_le _, Lib.hid (by omega), HM0.out⟩
 case round =>
  obtain ⟨k, rfl, hk, HQ, hm⟩ := hrel
  clear HM0
  have HM := Lib.hid hm
  clear hm
  have hz := HM.out.qb.lt
  have hk0 : (0 : Int) ≤ (k : Int) := by omega
  by_cases hlt : k < 64
  ·have hk64 : (k : Int) < 64 := by omega
   by_cases h16 : k < 16
   ·have h16i : (k : Int) < 16 := by omega
    have HS := Lib.hid (sched_low hl h16)
    obtain ⟨b0, hb0⟩ : ∃ x, b[4 * k]'(by omega) = x := ⟨_, rfl⟩
    obtain ⟨b1, hb1⟩ : ∃ x, b[4 * k + 1]'(by omega) = x := ⟨_, rfl⟩
    obtain ⟨b2, hb2⟩ : ∃ x, b[4 * k + 2]'(by omega) = x := ⟨_, rfl⟩
    obtain ⟨b3, hb3⟩ : ∃ x, b[4 * k + 3]'(by omega) = x := ⟨_, rfl⟩
    have HC : Hid (∀ wz : World, Below w.heap.size w wz → wz.cell? ⟨g, o + 4 * k, none⟩ = some (.int .u8 (b0.toNat : Int)) ∧ wz.cell? ⟨g, o + 4 * k + 1, none⟩ = some (.int .u8 (b1.toNat : Int)) ∧ wz.cell? ⟨g, o + 4 * k + 2, none⟩ = some (.int .u8 (b2.toNat : Int)) ∧ wz.cell? ⟨g, o + 4 * k + 3, none⟩ = some (.int .u8 (b3.toNat : Int))) := Lib.hid (fun wz hz => by
     rw [← hb0, ← hb1, ← hb2, ← hb3]
     exact ⟨(hz.cell (p := ⟨g, _, none⟩) hg).trans (HK.out.cell (4 * k) (by omega)), (hz.cell (p := ⟨g, _, none⟩) hg).trans (HK.out.cell (4 * k + 1) (by omega)), (hz.cell (p := ⟨g, _, none⟩) hg).trans (HK.out.cell (4 * k + 2) (by omega)), (hz.cell (p := ⟨g, _, none⟩) hg).trans (HK.out.cell (4 * k + 3) (by omega))⟩)
    rw [hb0, hb1, hb2, hb3] at HS
    clear hb0 hb1 hb2 hb3
    have hw0 : IntKind.i64.wrap (4 * (k : Int)) = 4 * (k : Int) := by rw [IntKind.wrap_i64]; omega
    have hv0 : (0 : Int) ≤ 4 * (k : Int) := by omega
    have hv1 : 4 * (k : Int) ≤ 64 := by omega
    have hn0 : (4 * (k : Int)).toNat = 4 * k := by omega
    have hn1 : 4 * k ≤ 64 := by omega
    have hn2 : 64 ≤ c := hcap
    go_wp2_with (go_at_call 177; refine (word_any g (o + 4 * k) _ _ b0 b1 b2 b3 _ (by omega) (HC.out _ HM.out.bel).1 (HC.out _ HM.out.bel).2.1 (HC.out _ HM.out.bel).2.2.1 (HC.out _ HM.out.bel).2.2.2).mono ?_; rintro e w2 ⟨rfl, m, hm⟩; have hb2 : Below wr.heap.size wr w2 := (by rw [hm]; exact below_drewN (Below.refl _ _) _); have HM2 := Lib.hid (HM.out.older hb2); have hz2 := HM2.out.qb.lt; have d0 := HM2.out.qb.cell (i := k) (wvals_at (by rw [List.length_append, schedL_len, List.length_replicate]; omega)); have f0 := HM2.out.qb.frz k; clear hm hb2)
    go_roundg (gk - 1)
    case rel =>
     refine ⟨k + 1, by go_num, by omega, Lib.hid (by have := HQ.out; omega), ?_⟩
     have h9 := HM2.out.putQ HQR.out.1 HQR.out.2.1 HQR.out.2.2 k (.int .u32 (wordB b0 b1 b2 b3))
     rw [wvals_set, fill_set _ (schedL_len b k) (by omega), ← HS.out] at h9
     exact h9
    case measure => have := HQ.out; omega
   ·have h16i : ¬ (k : Int) < 16 := by omega
    have hk16 : 16 ≤ k := by omega
    have hlen : ∀ i, i < k → i < (schedL b k ++ List.replicate (64 - k) 0).length := fun i hi => by rw [List.length_append, schedL_len, List.length_replicate]; omega
    have d2 := HM.out.qb.cell (i := k - 2) (wvals_at (hlen _ (by omega)))
    have d15 := HM.out.qb.cell (i := k - 15) (wvals_at (hlen _ (by omega)))
    rw [fill_at (schedL_len b k) (by omega)] at d2 d15
    obtain ⟨x, hx⟩ : ∃ x, wAt (schedL b k) (k - 2) = x := ⟨_, rfl⟩
    obtain ⟨y, hy⟩ : ∃ x, wAt (schedL b k) (k - 15) = x := ⟨_, rfl⟩
    obtain ⟨x7, hx7⟩ : ∃ x, wAt (schedL b k) (k - 7) = x := ⟨_, rfl⟩
    obtain ⟨x16, hx16⟩ : ∃ x, wAt (schedL b k) (k - 16) = x := ⟨_, rfl⟩
    rw [hx] at d2
    rw [hy] at d15
    have HXV := Lib.hid (And.intro hx (And.intro hy (And.intro hx7 hx16)))
    have HS := Lib.hid (sched_high hk16 HXV.out)
    have HLEN := Lib.hid hlen
    clear hx hy hx7 hx16 hlen
    have b2 : (0 : Int) ≤ (k : Int) - 2 := by omega
    have b7 : (0 : Int) ≤ (k : Int) - 7 := by omega
    have b15 : (0 : Int) ≤ (k : Int) - 15 := by omega
    have b16 : (0 : Int) ≤ (k : Int) - 16 := by omega
    have e2 : (k : Int) - 2 < 64 := by omega
    have e7 : (k : Int) - 7 < 64 := by omega
    have e15 : (k : Int) - 15 < 64 := by omega
    have e16 : (k : Int) - 16 < 64 := by omega
    have b7' : (7 : Int) ≤ (k : Int) := by omega
    have b16' : (16 : Int) ≤ (k : Int) := by omega
    have e7' : (k : Int) < 71 := by omega
    have e16' : (k : Int) < 80 := by omega
    have n2 : ((k : Int) - 2).toNat = k - 2 := by omega
    have n7 : ((k : Int) - 7).toNat = k - 7 := by omega
    have n15 : ((k : Int) - 15).toNat = k - 15 := by omega
    have n16 : ((k : Int) - 16).toNat = k - 16 := by omega
    have hw2 : IntKind.i64.wrap ((k : Int) - 2) = (k : Int) - 2 := by rw [IntKind.wrap_i64]; omega
    have hw7 : IntKind.i64.wrap ((k : Int) - 7) = (k : Int) - 7 := by rw [IntKind.wrap_i64]; omega
    have hw15 : IntKind.i64.wrap ((k : Int) - 15) = (k : Int) - 15 := by rw [IntKind.wrap_i64]; omega
    have hw16 : IntKind.i64.wrap ((k : Int) - 16) = (k : Int) - 16 := by rw [IntKind.wrap_i64]; omega
    go_wp2_with fail
    go_quiet (fail)
    generalize hw9 : wr.drewN nq = w2
    have hb9 : Below wr.heap.size wr w2 := by rw [← hw9]; exact below_drewN (Below.refl _ _) _
    have HM2 := Lib.hid (HM.out.older hb9)
    clear hw9 hb9 d2 d15 hz
    have d7 := HM2.out.qb.cell (i := k - 7) (wvals_at (HLEN.out _ (by omega)))
    have d16 := HM2.out.qb.cell (i := k - 16) (wvals_at (HLEN.out _ (by omega)))
    rw [fill_at (schedL_len b k) (by omega)] at d7 d16
    rw [HXV.out.2.2.1] at d7
    rw [HXV.out.2.2.2] at d16
    have hz := HM2.out.qb.lt
    have d0 := HM2.out.qb.cell (i := k) (wvals_at (by rw [List.length_append, schedL_len, List.length_replicate]; omega))
    have f0 := HM2.out.qb.frz k
    go_wp2_with fail
    refine wp_region_held_drew (S := fun w' => w'.cell? ⟨q, k - 7, none⟩ = some (.int .u32 x7) ∧ w'.cell? ⟨q, k - 16, none⟩ = some (.int .u32 x16)) (by kernel_rfl) (by exact ⟨d7, d16⟩) (fun hHeld => ?_)
    refine wpAnyH_take (i := 0) (v := ?_) (by simp only [List.getElem?_toArray, List.getElem?_cons_succ, List.getElem?_cons_zero]; rfl) (by kernel_rfl) (by kernel_rfl) (by kernel_rfl) (by intro _ _ _ h; exact h) (Or.inl ⟨by rfl, ?_⟩) (by assumption) ?_
    rotate_left
    focus (intro wT hT; (try dsimp only at hT); go_simp; try with_reducible rfl)
    try simp only [Act.put, List.setIfInBounds_toArray, List.set_cons_zero, List.set_cons_succ]
    refine wpAnyH_take (i := 1) (v := ?_) (by simp only [List.getElem?_toArray, List.getElem?_cons_succ, List.getElem?_cons_zero]; rfl) (by kernel_rfl) (by kernel_rfl) (by kernel_rfl) (by intro _ _ _ h; exact h) (Or.inl ⟨by rfl, ?_⟩) (by assumption) ?_
    rotate_left
    focus (intro wT hT; (try dsimp only at hT); go_simp; try with_reducible rfl)
    try simp only [Act.put, List.setIfInBounds_toArray, List.set_cons_zero, List.set_cons_succ]
    refine wpAnyH_take (i := 3) (v := ?_) (by simp only [List.getElem?_toArray, List.getElem?_cons_succ, List.getElem?_cons_zero]; rfl) (by kernel_rfl) (by kernel_rfl) (by kernel_rfl) (by intro _ _ _ h; exact h) (Or.inl ⟨by rfl, ?_⟩) (by assumption) ?_
    rotate_left
    focus (intro wT hT; (try dsimp only at hT); go_simp; try with_reducible rfl)
    try simp only [Act.put, List.setIfInBounds_toArray, List.set_cons_zero, List.set_cons_succ]
    refine wpAnyH_take (i := 6) (v := ?_) (by simp only [List.getElem?_toArray, List.getElem?_cons_succ, List.getElem?_cons_zero]; rfl) (by kernel_rfl) (by kernel_rfl) (by kernel_rfl) (by intro _ _ _ h; exact h) (Or.inl ⟨by rfl, ?_⟩) (by assumption) ?_
    rotate_left
    focus (intro wT hT; (try dsimp only at hT); go_simp; try with_reducible rfl)
    try simp only [Act.put, List.setIfInBounds_toArray, List.set_cons_zero, List.set_cons_succ]
    refine wpAnyH_take (i := 7) (v := ?_) (by simp only [List.getElem?_toArray, List.getElem?_cons_succ, List.getElem?_cons_zero]; rfl) (by kernel_rfl) (by kernel_rfl) (by kernel_rfl) (by intro _ _ _ h; exact h) (Or.inl ⟨by rfl, ?_⟩) (by assumption) ?_
    rotate_left
    focus (intro wT hT; (try dsimp only at hT); go_simp; try with_reducible rfl)
    try simp only [Act.put, List.setIfInBounds_toArray, List.set_cons_zero, List.set_cons_succ]
    refine wpAnyH_take (i := 9) (v := ?_) (by simp only [List.getElem?_toArray, List.getElem?_cons_succ, List.getElem?_cons_zero]; rfl) (by kernel_rfl) (by kernel_rfl) (by kernel_rfl) (by intro _ _ _ h; exact h) (Or.inl ⟨by rfl, ?_⟩) (by assumption) ?_
    rotate_left
    focus (intro wT hT; (try dsimp only at hT); go_simp; try with_reducible rfl)
    try simp only [Act.put, List.setIfInBounds_toArray, List.set_cons_zero, List.set_cons_succ]
    refine wpAnyH_take (i := 10) (v := ?_) (by simp only [List.getElem?_toArray, List.getElem?_cons_succ, List.getElem?_cons_zero]; rfl) (by kernel_rfl) (by kernel_rfl) (by kernel_rfl) (by intro _ _ _ h; exact h) (Or.inl ⟨by rfl, ?_⟩) (by assumption) ?_
    rotate_left
    focus (intro wT hT; (try dsimp only at hT); go_simp; try with_reducible rfl)
    try simp only [Act.put, List.setIfInBounds_toArray, List.set_cons_zero, List.set_cons_succ]
    refine wpAnyH_take (i := 11) (v := ?_) (by simp only [List.getElem?_toArray, List.getElem?_cons_succ, List.getElem?_cons_zero]; rfl) (by kernel_rfl) (by kernel_rfl) (by kernel_rfl) (by intro _ _ _ h; exact h) (Or.inl ⟨by rfl, ?_⟩) (by assumption) ?_
    rotate_left
    focus (intro wT hT; (try dsimp only at hT); go_simp; try with_reducible rfl)
    try simp only [Act.put, List.setIfInBounds_toArray, List.set_cons_zero, List.set_cons_succ]
    refine wpAnyH_take (i := 12) (v := ?_) (by simp only [List.getElem?_toArray, List.getElem?_cons_succ, List.getElem?_cons_zero]; rfl) (by kernel_rfl) (by kernel_rfl) (by kernel_rfl) (by intro _ _ _ h; exact h) (Or.inl ⟨by rfl, ?_⟩) (by assumption) ?_
    rotate_left
    focus (intro wT hT; (try dsimp only at hT); go_simp; try with_reducible rfl)
    try simp only [Act.put, List.setIfInBounds_toArray, List.set_cons_zero, List.set_cons_succ]
    refine wpAnyH_take (i := 14) (v := ?_) (by simp only [List.getElem?_toArray, List.getElem?_cons_succ, List.getElem?_cons_zero]; rfl) (by kernel_rfl) (by kernel_rfl) (by kernel_rfl) (by intro _ _ _ h; exact h) (Or.inl ⟨by rfl, ?_⟩) (by assumption) ?_
    rotate_left
    focus (intro wT hT; (try dsimp only at hT); go_simp; try with_reducible rfl)
    try simp only [Act.put, List.setIfInBounds_toArray, List.set_cons_zero, List.set_cons_succ]
    refine wpAnyH_take (i := 16) (v := ?_) (by simp only [List.getElem?_toArray, List.getElem?_cons_succ, List.getElem?_cons_zero]; rfl) (by kernel_rfl) (by kernel_rfl) (by kernel_rfl) (by intro _ _ _ h; exact h) (Or.inl ⟨by rfl, ?_⟩) (by assumption) ?_
    rotate_left
    focus (intro wT hT; (try dsimp only at hT); go_simp; try with_reducible rfl)
    try simp only [Act.put, List.setIfInBounds_toArray, List.set_cons_zero, List.set_cons_succ]
    refine wpAnyH_take (i := 19) (v := ?_) (by simp only [List.getElem?_toArray, List.getElem?_cons_succ, List.getElem?_cons_zero]; rfl) (by kernel_rfl) (by kernel_rfl) (by kernel_rfl) (by intro _ _ _ h; exact h) (Or.inl ⟨by rfl, ?_⟩) (by assumption) ?_
    rotate_left
    focus (intro wT hT; (try dsimp only at hT); go_simp; try with_reducible rfl)
    try simp only [Act.put, List.setIfInBounds_toArray, List.set_cons_zero, List.set_cons_succ]
    refine wpAnyH_take (i := 20) (v := ?_) (by simp only [List.getElem?_toArray, List.getElem?_cons_succ, List.getElem?_cons_zero]; rfl) (by kernel_rfl) (by kernel_rfl) (by kernel_rfl) (by intro _ _ _ h; exact h) (Or.inl ⟨by rfl, ?_⟩) (by assumption) ?_
    rotate_left
    focus (intro wT hT; (try dsimp only at hT); go_simp; try with_reducible rfl)
    try simp only [Act.put, List.setIfInBounds_toArray, List.set_cons_zero, List.set_cons_succ]
    refine wpAnyH_take (i := 23) (v := ?_) (by simp only [List.getElem?_toArray, List.getElem?_cons_succ, List.getElem?_cons_zero]; rfl) (by kernel_rfl) (by kernel_rfl) (by kernel_rfl) (by intro _ _ _ h; exact h) (Or.inl ⟨by rfl, ?_⟩) (by assumption) ?_
    rotate_left
    focus (intro wT hT; (try dsimp only at hT); go_simp; try with_reducible rfl)
    try simp only [Act.put, List.setIfInBounds_toArray, List.set_cons_zero, List.set_cons_succ]
    refine wpAnyH_take (i := 24) (v := ?_) (by simp only [List.getElem?_toArray, List.getElem?_cons_succ, List.getElem?_cons_zero]; rfl) (by kernel_rfl) (by kernel_rfl) (by kernel_rfl) (by intro _ _ _ h; exact h) (Or.inl ⟨by rfl, ?_⟩) (by assumption) ?_
    rotate_left
    focus (intro wT hT; (try dsimp only at hT); go_simp; try with_reducible rfl)
    try simp only [Act.put, List.setIfInBounds_toArray, List.set_cons_zero, List.set_cons_succ]
    refine wpAnyH_take (i := 25) (v := ?_) (by simp only [List.getElem?_toArray, List.getElem?_cons_succ, List.getElem?_cons_zero]; rfl) (by kernel_rfl) (by kernel_rfl) (by kernel_rfl) (by intro _ _ _ h; exact h) (Or.inl ⟨by rfl, ?_⟩) (by assumption) ?_
    rotate_left
    focus (intro wT hT; (try dsimp only at hT); go_simp; try with_reducible rfl)
    try simp only [Act.put, List.setIfInBounds_toArray, List.set_cons_zero, List.set_cons_succ]
    refine wpAnyH_take (i := 26) (v := ?_) (by simp only [List.getElem?_toArray, List.getElem?_cons_succ, List.getElem?_cons_zero]; rfl) (by kernel_rfl) (by kernel_rfl) (by kernel_rfl) (by intro _ _ _ h; exact h) (Or.inl ⟨by rfl, ?_⟩) (by assumption) ?_
    rotate_left
    focus (intro wT hT; (try dsimp only at hT); go_simp; try with_reducible rfl)
    try simp only [Act.put, List.setIfInBounds_toArray, List.set_cons_zero, List.set_cons_succ]
    refine wpAnyH_ready (rs := [2]) (by kernel_rfl) (by simp) (AllReadyH.cons (by simp only [List.getElem?_toArray, List.getElem?_cons_succ, List.getElem?_cons_zero]; rfl) (fun K hK => ?_) AllReadyH.nil)
    go_simp
    go_at_call 178; refine (rRotrB _ _ _ (by decide)).mono ?_; rintro e wa ⟨rfl, hbx⟩; have hbwa : Below w2.heap.size w2 wa := ((Below.refl w2.heap.size w2).drew).trans hbx; have HMwa := Lib.hid (HM2.out.older hbwa); clear hbx d7 d16 hz d0 f0; have d7 := HMwa.out.qb.cell (i := k - 7) (wvals_at (HLEN.out _ (by omega))); have d16 := HMwa.out.qb.cell (i := k - 16) (wvals_at (HLEN.out _ (by omega))); rw [fill_at (schedL_len b k) (by omega)] at d7 d16; rw [HXV.out.2.2.1] at d7; rw [HXV.out.2.2.2] at d16; have hz := HMwa.out.qb.lt; have d0 := HMwa.out.qb.cell (i := k) (wvals_at (by rw [List.length_append, schedL_len, List.length_replicate]; omega)); have f0 := HMwa.out.qb.frz k
    go_wp2_with fail
    refine hK.out _ _ (by exact ⟨d7, d16⟩) (fun hHe2 => ?_)
    clear hK K
    try simp only [Act.put, List.setIfInBounds_toArray, List.set_cons_zero, List.set_cons_succ]
    refine wpAnyH_ready (rs := [4]) (by kernel_rfl) (by simp) (AllReadyH.cons (by simp only [List.getElem?_toArray, List.getElem?_cons_succ, List.getElem?_cons_zero]; rfl) (fun K hK => ?_) AllReadyH.nil)
    go_simp
    go_at_call 178; refine (rRotrB _ _ _ (by decide)).mono ?_; rintro e wb ⟨rfl, hbx⟩; have hbwb : Below w2.heap.size w2 wb := hbwa.trans (hbx.mono hbwa.size); have HMwb := Lib.hid (HM2.out.older hbwb); clear hbx d7 d16 hz d0 f0; have d7 := HMwb.out.qb.cell (i := k - 7) (wvals_at (HLEN.out _ (by omega))); have d16 := HMwb.out.qb.cell (i := k - 16) (wvals_at (HLEN.out _ (by omega))); rw [fill_at (schedL_len b k) (by omega)] at d7 d16; rw [HXV.out.2.2.1] at d7; rw [HXV.out.2.2.2] at d16; have hz := HMwb.out.qb.lt; have d0 := HMwb.out.qb.cell (i := k) (wvals_at (by rw [List.length_append, schedL_len, List.length_replicate]; omega)); have f0 := HMwb.out.qb.frz k
    go_wp2_with fail
    refine hK.out _ _ (by exact ⟨d7, d16⟩) (fun hHe3 => ?_)
    clear hK K
    try simp only [Act.put, List.setIfInBounds_toArray, List.set_cons_zero, List.set_cons_succ]
    refine wpAnyH_take (i := 5) (v := ?_) (by simp only [List.getElem?_toArray, List.getElem?_cons_succ, List.getElem?_cons_zero]; rfl) (by kernel_rfl) (by kernel_rfl) (by kernel_rfl) (by intro _ _ _ h; exact h) (Or.inl ⟨by rfl, ?_⟩) (by assumption) ?_
    rotate_left
    focus (intro wT hT; (try dsimp only at hT); go_simp; try with_reducible rfl)
    try simp only [Act.put, List.setIfInBounds_toArray, List.set_cons_zero, List.set_cons_succ]
    refine wpAnyH_take (i := 8) (v := ?_) (by simp only [List.getElem?_toArray, List.getElem?_cons_succ, List.getElem?_cons_zero]; rfl) (by kernel_rfl) (by kernel_rfl) (by kernel_rfl) (by intro _ _ _ h; exact h) (Or.inl ⟨by rfl, ?_⟩) (by assumption) ?_
    rotate_left
    focus (intro wT hT; (try dsimp only at hT); go_simp; try with_reducible rfl)
    try simp only [Act.put, List.setIfInBounds_toArray, List.set_cons_zero, List.set_cons_succ]
    refine wpAnyH_take (i := 13) (v := ?_) (by simp only [List.getElem?_toArray, List.getElem?_cons_succ, List.getElem?_cons_zero]; rfl) (by kernel_rfl) (by kernel_rfl) (by kernel_rfl) (by intro _ _ _ h; exact h) (Or.inl ⟨by rfl, ?_⟩) (by assumption) ?_
    rotate_left
    focus (intro wT hT; (try dsimp only at hT); go_simp; try with_reducible rfl)
    try simp only [Act.put, List.setIfInBounds_toArray, List.set_cons_zero, List.set_cons_succ]
    refine wpAnyH_ready (rs := [15]) (by kernel_rfl) (by simp) (AllReadyH.cons (by simp only [List.getElem?_toArray, List.getElem?_cons_succ, List.getElem?_cons_zero]; rfl) (fun K hK => ?_) AllReadyH.nil)
    go_simp
    go_at_call 178; refine (rRotrB _ _ _ (by decide)).mono ?_; rintro e wc ⟨rfl, hbx⟩; have hbwc : Below w2.heap.size w2 wc := hbwb.trans (hbx.mono hbwb.size); have HMwc := Lib.hid (HM2.out.older hbwc); clear hbx d7 d16 hz d0 f0; have d7 := HMwc.out.qb.cell (i := k - 7) (wvals_at (HLEN.out _ (by omega))); have d16 := HMwc.out.qb.cell (i := k - 16) (wvals_at (HLEN.out _ (by omega))); rw [fill_at (schedL_len b k) (by omega)] at d7 d16; rw [HXV.out.2.2.1] at d7; rw [HXV.out.2.2.2] at d16; have hz := HMwc.out.qb.lt; have d0 := HMwc.out.qb.cell (i := k) (wvals_at (by rw [List.length_append, schedL_len, List.length_replicate]; omega)); have f0 := HMwc.out.qb.frz k
    go_wp2_with fail
    refine hK.out _ _ (by exact ⟨d7, d16⟩) (fun hHe4 => ?_)
    clear hK K
    try simp only [Act.put, List.setIfInBounds_toArray, List.set_cons_zero, List.set_cons_succ]
    refine wpAnyH_ready (rs := [17]) (by kernel_rfl) (by simp) (AllReadyH.cons (by simp only [List.getElem?_toArray, List.getElem?_cons_succ, List.getElem?_cons_zero]; rfl) (fun K hK => ?_) AllReadyH.nil)
    go_simp
    go_at_call 178; refine (rRotrB _ _ _ (by decide)).mono ?_; rintro e wd ⟨rfl, hbx⟩; have hbwd : Below w2.heap.size w2 wd := hbwc.trans (hbx.mono hbwc.size); have HMwd := Lib.hid (HM2.out.older hbwd); clear hbx d7 d16 hz d0 f0; have d7 := HMwd.out.qb.cell (i := k - 7) (wvals_at (HLEN.out _ (by omega))); have d16 := HMwd.out.qb.cell (i := k - 16) (wvals_at (HLEN.out _ (by omega))); rw [fill_at (schedL_len b k) (by omega)] at d7 d16; rw [HXV.out.2.2.1] at d7; rw [HXV.out.2.2.2] at d16; have hz := HMwd.out.qb.lt; have d0 := HMwd.out.qb.cell (i := k) (wvals_at (by rw [List.length_append, schedL_len, List.length_replicate]; omega)); have f0 := HMwd.out.qb.frz k
    go_wp2_with fail
    refine hK.out _ _ (by exact ⟨d7, d16⟩) (fun hHe5 => ?_)
    clear hK K
    try simp only [Act.put, List.setIfInBounds_toArray, List.set_cons_zero, List.set_cons_succ]
    refine wpAnyH_take (i := 18) (v := ?_) (by simp only [List.getElem?_toArray, List.getElem?_cons_succ, List.getElem?_cons_zero]; rfl) (by kernel_rfl) (by kernel_rfl) (by kernel_rfl) (by intro _ _ _ h; exact h) (Or.inl ⟨by rfl, ?_⟩) (by assumption) ?_
    rotate_left
    focus (intro wT hT; (try dsimp only at hT); go_simp; try with_reducible rfl)
    try simp only [Act.put, List.setIfInBounds_toArray, List.set_cons_zero, List.set_cons_succ]
    refine wpAnyH_take (i := 21) (v := ?_) (by simp only [List.getElem?_toArray, List.getElem?_cons_succ, List.getElem?_cons_zero]; rfl) (by kernel_rfl) (by kernel_rfl) (by kernel_rfl) (by intro _ _ _ h; exact h) (Or.inl ⟨by rfl, ?_⟩) (by assumption) ?_
    rotate_left
    focus (intro wT hT; (try dsimp only at hT); go_simp; try with_reducible rfl)
    try simp only [Act.put, List.setIfInBounds_toArray, List.set_cons_zero, List.set_cons_succ]
    refine wpAnyH_take (i := 22) (v := ?_) (by simp only [List.getElem?_toArray, List.getElem?_cons_succ, List.getElem?_cons_zero]; rfl) (by kernel_rfl) (by kernel_rfl) (by kernel_rfl) (by intro _ _ _ h; exact h) (Or.inl ⟨by rfl, ?_⟩) (by assumption) ?_
    rotate_left
    focus (intro wT hT; (try dsimp only at hT); go_simp; try with_reducible rfl)
    try simp only [Act.put, List.setIfInBounds_toArray, List.set_cons_zero, List.set_cons_succ]
    refine wpAnyH_take (i := 27) (v := ?_) (by simp only [List.getElem?_toArray, List.getElem?_cons_succ, List.getElem?_cons_zero]; rfl) (by kernel_rfl) (by kernel_rfl) (by kernel_rfl) (by intro _ _ _ h; exact h) (Or.inl ⟨by rfl, ?_⟩) (by assumption) ?_
    rotate_left
    focus (intro wT hT; (try dsimp only at hT); go_simp; try with_reducible rfl)
    try simp only [Act.put, List.setIfInBounds_toArray, List.set_cons_zero, List.set_cons_succ]
    refine wpAnyH_take (i := 28) (v := ?_) (by simp only [List.getElem?_toArray, List.getElem?_cons_succ, List.getElem?_cons_zero]; rfl) (by kernel_rfl) (by kernel_rfl) (by kernel_rfl) (by intro _ _ _ h; exact h) (Or.inl ⟨by rfl, ?_⟩) (by assumption) ?_
    rotate_left
    focus (intro wT hT; (try dsimp only at hT); go_simp; try with_reducible rfl)
    try simp only [Act.put, List.setIfInBounds_toArray, List.set_cons_zero, List.set_cons_succ]
    refine wpAnyH_ready (rs := [29]) (by kernel_rfl) (by simp) (AllReadyH.cons (by simp only [List.getElem?_toArray, List.getElem?_cons_succ, List.getElem?_cons_zero]; rfl) (fun K hK => ?_) AllReadyH.nil)
    go_simp
    refine hK.out _ _ (by exact ⟨(cell_other _ _ _ (by omega)).trans d7, (cell_other _ _ _ (by omega)).trans d16⟩) (fun hHe6 => ?_)
    clear hK K
    try simp only [Act.put, List.setIfInBounds_toArray, List.set_cons_zero, List.set_cons_succ]
    refine wpAnyH_done (by kernel_rfl) ?_ _
    go_wp2_with fail
    go_roundg (gk - 1)
    case rel =>
     refine ⟨k + 1, by go_num, by omega, Lib.hid (by have := HQ.out; omega), ?_⟩
     have h9 := HMwd.out.putQ HQR.out.1 HQR.out.2.1 HQR.out.2.2 k (.int .u32 ((sg1 x + x7 + sg0 y + x16) % 4294967296))
     rw [wvals_set, fill_set _ (schedL_len b k) (by omega), ← HS.out] at h9
     rw [next_mod]
     exact h9
    case measure => have := HQ.out; omega
  ·have hk64 : k = 64 := by omega
   subst hk64
   have HMS := Lib.hid (show SchS w wr q w.heap.size (w.heap.size + 1) (wvals (schedL b 64)) (stV ⟨sa, sb, sc, sd, se, sf, sg, sh⟩) by have h9 := HM.out; rw [show 64 - 64 = 0 from rfl, List.replicate_zero, List.append_nil] at h9; exact h9)
   have r0 : wr.cell? ⟨w.heap.size, 0, none⟩ = some (.int .u32 sa) := HMS.out.rb.cell (i := 0) rfl
   have r1 : wr.cell? ⟨w.heap.size, 1, none⟩ = some (.int .u32 sb) := HMS.out.rb.cell (i := 1) rfl
   have r2 : wr.cell? ⟨w.heap.size, 2, none⟩ = some (.int .u32 sc) := HMS.out.rb.cell (i := 2) rfl
   have r3 : wr.cell? ⟨w.heap.size, 3, none⟩ = some (.int .u32 sd) := HMS.out.rb.cell (i := 3) rfl
   have r4 : wr.cell? ⟨w.heap.size, 4, none⟩ = some (.int .u32 se) := HMS.out.rb.cell (i := 4) rfl
   have r5 : wr.cell? ⟨w.heap.size, 5, none⟩ = some (.int .u32 sf) := HMS.out.rb.cell (i := 5) rfl
   have r6 : wr.cell? ⟨w.heap.size, 6, none⟩ = some (.int .u32 sg) := HMS.out.rb.cell (i := 6) rfl
   have r7 : wr.cell? ⟨w.heap.size, 7, none⟩ = some (.int .u32 sh) := HMS.out.rb.cell (i := 7) rfl
   have hzr := HMS.out.rb.lt
   clear HM hlt
   have hb8 := (Below.refl wr.heap.size wr).alloc (Nat.le_refl _) (.cells (stV ⟨sa, sb, sc, sd, se, sf, sg, sh⟩) 155)
   have hzt := HMS.out.tb.lt
   have HB0 := Lib.hid (show BlkS w _ wr.heap.size q w.heap.size (w.heap.size + 1) (stV (roundsM (schedL b 64) ⟨sa, sb, sc, sd, se, sf, sg, sh⟩ 0)) (wvals (schedL b 64)) (stV ⟨sa, sb, sc, sd, se, sf, sg, sh⟩) from ⟨HMS.out.bel.trans (hb8.mono HMS.out.bel.size), Bx.new wr _ _, HMS.out.qb.older hb8, HMS.out.rb.older hb8, HMS.out.tb.older hb8⟩)
   have hzq := HMS.out.qb.lt
   go_wp2_with fail
   obtain ⟨p, hp⟩ : ∃ p, wr.heap.size = p := ⟨_, rfl⟩
   have HPQ := Lib.hid (show w.heap.size ≤ p ∧ ¬ q = p ∧ ¬ w.heap.size = p ∧ ¬ w.heap.size + 1 = p by omega)
   rw [hp] at HB0
   rw [hp]
   clear hp hb8 hz hzr hzt hzq r0 r1 r2 r3 r4 r5 r6 r7 HMS
   go_loopg [67, 10, 11, 12, 13, 14] 64 (fun gq iv s10 s11 s12 s13 s14 wr => ∃ k : Nat, iv = .int .i64 k ∧ k ≤ 64 ∧ Hid (64 ≤ gq + k) ∧ BlkS w wr p q w.heap.size (w.heap.size + 1) (stV (roundsM (schedL b 64) ⟨sa, sb, sc, sd, se, sf, sg, sh⟩ k)) (wvals (schedL b 64)) (stV ⟨sa, sb, sc, sd, se, sf, sg, sh⟩))
   case atStart => exact ⟨0, rfl, Nat.zero_le _, Lib.hid (by omega), HB0.out⟩
   case round =>
    obtain ⟨k, rfl, hk, HQ, hm⟩ := hrel
    clear HB0
    have HM := Lib.hid hm
    clear hm
    by_cases hlt : k < 64
    ·obtain ⟨v, hv⟩ : ∃ v, roundsM (schedL b 64) ⟨sa, sb, sc, sd, se, sf, sg, sh⟩ k = v := ⟨_, rfl⟩
     have HV := Lib.hid hv
     rw [hv] at HM
     clear hv
     obtain ⟨va, vb, vc, vd, ve, vf, vg, vh⟩ := v
     obtain ⟨kx, hkx⟩ : ∃ x, kAt k = x := ⟨_, rfl⟩
     obtain ⟨wx, hwx⟩ : ∃ x, wAt (schedL b 64) k = x := ⟨_, rfl⟩
     have HKW := Lib.hid (And.intro hkx hwx)
     have hconst : Hid (∀ wz : World, Calls Tryz.prog 179 #[.int .i64 (k : Int)] wz fun e w' => e = .returned (.int .u32 kx) ∧ Below wz.heap.size wz w') := Lib.hid (fun wz => by rw [← hkx]; exact const_any k hlt wz)
     clear hkx hwx
     have hk0 : (0 : Int) ≤ (k : Int) := by omega
     have hk64 : (k : Int) < 64 := by omega
     have c0 : wr.cell? ⟨p, 0, none⟩ = some (.int .u32 va) := HM.out.pb.cell (i := 0) rfl
     have c1 : wr.cell? ⟨p, 1, none⟩ = some (.int .u32 vb) := HM.out.pb.cell (i := 1) rfl
     have c2 : wr.cell? ⟨p, 2, none⟩ = some (.int .u32 vc) := HM.out.pb.cell (i := 2) rfl
     have c3 : wr.cell? ⟨p, 3, none⟩ = some (.int .u32 vd) := HM.out.pb.cell (i := 3) rfl
     have c4 : wr.cell? ⟨p, 4, none⟩ = some (.int .u32 ve) := HM.out.pb.cell (i := 4) rfl
     have c5 : wr.cell? ⟨p, 5, none⟩ = some (.int .u32 vf) := HM.out.pb.cell (i := 5) rfl
     have c6 : wr.cell? ⟨p, 6, none⟩ = some (.int .u32 vg) := HM.out.pb.cell (i := 6) rfl
     have c7 : wr.cell? ⟨p, 7, none⟩ = some (.int .u32 vh) := HM.out.pb.cell (i := 7) rfl
     have hz := HM.out.pb.lt
     have hzq := HM.out.qb.lt
     have hww := HM.out.qb.cell (i := k) (wvals_at (by rw [schedL_len]; exact hlt))
     rw [show (schedL b 64).getD k 0 = wAt (schedL b 64) k from rfl, HKW.out.2] at hww
     go_wp2_with fail
     go_quiet (fail)
     generalize hw9 : wr.drewN nq = w2
     have hb9 : Below wr.heap.size wr w2 := by rw [← hw9]; exact below_drewN (Below.refl _ _) _
     have HM2 := Lib.hid (HM.out.older hb9)
     clear hw9 hb9 c0 c1 c2 c3 c4 c5 c6 c7 hz hzq hww
     have c0 : w2.cell? ⟨p, 0, none⟩ = some (.int .u32 va) := HM2.out.pb.cell (i := 0) rfl
     have c1 : w2.cell? ⟨p, 1, none⟩ = some (.int .u32 vb) := HM2.out.pb.cell (i := 1) rfl
     have c2 : w2.cell? ⟨p, 2, none⟩ = some (.int .u32 vc) := HM2.out.pb.cell (i := 2) rfl
     have c3 : w2.cell? ⟨p, 3, none⟩ = some (.int .u32 vd) := HM2.out.pb.cell (i := 3) rfl
     have c4 : w2.cell? ⟨p, 4, none⟩ = some (.int .u32 ve) := HM2.out.pb.cell (i := 4) rfl
     have c5 : w2.cell? ⟨p, 5, none⟩ = some (.int .u32 vf) := HM2.out.pb.cell (i := 5) rfl
     have c6 : w2.cell? ⟨p, 6, none⟩ = some (.int .u32 vg) := HM2.out.pb.cell (i := 6) rfl
     have c7 : w2.cell? ⟨p, 7, none⟩ = some (.int .u32 vh) := HM2.out.pb.cell (i := 7) rfl
     have hz := HM2.out.pb.lt
     have hzq := HM2.out.qb.lt
     have hww := HM2.out.qb.cell (i := k) (wvals_at (by rw [schedL_len]; exact hlt))
     rw [show (schedL b 64).getD k 0 = wAt (schedL b 64) k from rfl, HKW.out.2] at hww
     go_wp2_with fail
     refine wp_region_held_drew (S := fun w' => w'.cell? ⟨p, 4, none⟩ = some (.int .u32 ve) ∧ w'.cell? ⟨p, 5, none⟩ = some (.int .u32 vf) ∧ w'.cell? ⟨p, 6, none⟩ = some (.int .u32 vg) ∧ w'.cell? ⟨p, 7, none⟩ = some (.int .u32 vh) ∧ w'.cell? ⟨q, k, none⟩ = some (.int .u32 wx)) (by kernel_rfl) (by exact ⟨c4, c5, c6, c7, hww⟩) (fun hHeld => ?_)
     refine wpAnyH_take (i := 0) (v := ?_) (by simp only [List.getElem?_toArray, List.getElem?_cons_succ, List.getElem?_cons_zero]; rfl) (by kernel_rfl) (by kernel_rfl) (by kernel_rfl) (by intro _ _ _ h; exact h) (Or.inl ⟨by rfl, ?_⟩) (by assumption) ?_
     rotate_left
     focus (intro wT hT; (try dsimp only at hT); go_simp; try with_reducible rfl)
     try simp only [Act.put, List.setIfInBounds_toArray, List.set_cons_zero, List.set_cons_succ]
     refine wpAnyH_take (i := 1) (v := ?_) (by simp only [List.getElem?_toArray, List.getElem?_cons_succ, List.getElem?_cons_zero]; rfl) (by kernel_rfl) (by kernel_rfl) (by kernel_rfl) (by intro _ _ _ h; exact h) (Or.inl ⟨by rfl, ?_⟩) (by assumption) ?_
     rotate_left
     focus (intro wT hT; (try dsimp only at hT); go_simp; try with_reducible rfl)
     try simp only [Act.put, List.setIfInBounds_toArray, List.set_cons_zero, List.set_cons_succ]
     refine wpAnyH_take (i := 2) (v := ?_) (by simp only [List.getElem?_toArray, List.getElem?_cons_succ, List.getElem?_cons_zero]; rfl) (by kernel_rfl) (by kernel_rfl) (by kernel_rfl) (by intro _ _ _ h; exact h) (Or.inl ⟨by rfl, ?_⟩) (by assumption) ?_
     rotate_left
     focus (intro wT hT; (try dsimp only at hT); go_simp; try with_reducible rfl)
     try simp only [Act.put, List.setIfInBounds_toArray, List.set_cons_zero, List.set_cons_succ]
     refine wpAnyH_take (i := 4) (v := ?_) (by simp only [List.getElem?_toArray, List.getElem?_cons_succ, List.getElem?_cons_zero]; rfl) (by kernel_rfl) (by kernel_rfl) (by kernel_rfl) (by intro _ _ _ h; exact h) (Or.inl ⟨by rfl, ?_⟩) (by assumption) ?_
     rotate_left
     focus (intro wT hT; (try dsimp only at hT); go_simp; try with_reducible rfl)
     try simp only [Act.put, List.setIfInBounds_toArray, List.set_cons_zero, List.set_cons_succ]
     refine wpAnyH_take (i := 7) (v := ?_) (by simp only [List.getElem?_toArray, List.getElem?_cons_succ, List.getElem?_cons_zero]; rfl) (by kernel_rfl) (by kernel_rfl) (by kernel_rfl) (by intro _ _ _ h; exact h) (Or.inl ⟨by rfl, ?_⟩) (by assumption) ?_
     rotate_left
     focus (intro wT hT; (try dsimp only at hT); go_simp; try with_reducible rfl)
     try simp only [Act.put, List.setIfInBounds_toArray, List.set_cons_zero, List.set_cons_succ]
     refine wpAnyH_take (i := 11) (v := ?_) (by simp only [List.getElem?_toArray, List.getElem?_cons_succ, List.getElem?_cons_zero]; rfl) (by kernel_rfl) (by kernel_rfl) (by kernel_rfl) (by intro _ _ _ h; exact h) (Or.inl ⟨by rfl, ?_⟩) (by assumption) ?_
     rotate_left
     focus (intro wT hT; (try dsimp only at hT); go_simp; try with_reducible rfl)
     try simp only [Act.put, List.setIfInBounds_toArray, List.set_cons_zero, List.set_cons_succ]
     refine wpAnyH_take (i := 12) (v := ?_) (by simp only [List.getElem?_toArray, List.getElem?_cons_succ, List.getElem?_cons_zero]; rfl) (by kernel_rfl) (by kernel_rfl) (by kernel_rfl) (by intro _ _ _ h; exact h) (Or.inl ⟨by rfl, ?_⟩) (by assumption) ?_
     rotate_left
     focus (intro wT hT; (try dsimp only at hT); go_simp; try with_reducible rfl)
     try simp only [Act.put, List.setIfInBounds_toArray, List.set_cons_zero, List.set_cons_succ]
     refine wpAnyH_take (i := 13) (v := ?_) (by simp only [List.getElem?_toArray, List.getElem?_cons_succ, List.getElem?_cons_zero]; rfl) (by kernel_rfl) (by kernel_rfl) (by kernel_rfl) (by intro _ _ _ h; exact h) (Or.inl ⟨by rfl, ?_⟩) (by assumption) ?_
     rotate_left
     focus (intro wT hT; (try dsimp only at hT); go_simp; try with_reducible rfl)
     try simp only [Act.put, List.setIfInBounds_toArray, List.set_cons_zero, List.set_cons_succ]
     refine wpAnyH_take (i := 14) (v := ?_) (by simp only [List.getElem?_toArray, List.getElem?_cons_succ, List.getElem?_cons_zero]; rfl) (by kernel_rfl) (by kernel_rfl) (by kernel_rfl) (by intro _ _ _ h; exact h) (Or.inl ⟨by rfl, ?_⟩) (by assumption) ?_
     rotate_left
     focus (intro wT hT; (try dsimp only at hT); go_simp; try with_reducible rfl)
     try simp only [Act.put, List.setIfInBounds_toArray, List.set_cons_zero, List.set_cons_succ]
     refine wpAnyH_take (i := 15) (v := ?_) (by simp only [List.getElem?_toArray, List.getElem?_cons_succ, List.getElem?_cons_zero]; rfl) (by kernel_rfl) (by kernel_rfl) (by kernel_rfl) (by intro _ _ _ h; exact h) (Or.inl ⟨by rfl, ?_⟩) (by assumption) ?_
     rotate_left
     focus (intro wT hT; (try dsimp only at hT); go_simp; try with_reducible rfl)
     try simp only [Act.put, List.setIfInBounds_toArray, List.set_cons_zero, List.set_cons_succ]
     refine wpAnyH_take (i := 16) (v := ?_) (by simp only [List.getElem?_toArray, List.getElem?_cons_succ, List.getElem?_cons_zero]; rfl) (by kernel_rfl) (by kernel_rfl) (by kernel_rfl) (by intro _ _ _ h; exact h) (Or.inl ⟨by rfl, ?_⟩) (by assumption) ?_
     rotate_left
     focus (intro wT hT; (try dsimp only at hT); go_simp; try with_reducible rfl)
     try simp only [Act.put, List.setIfInBounds_toArray, List.set_cons_zero, List.set_cons_succ]
     refine wpAnyH_take (i := 17) (v := ?_) (by simp only [List.getElem?_toArray, List.getElem?_cons_succ, List.getElem?_cons_zero]; rfl) (by kernel_rfl) (by kernel_rfl) (by kernel_rfl) (by intro _ _ _ h; exact h) (Or.inl ⟨by rfl, ?_⟩) (by assumption) ?_
     rotate_left
     focus (intro wT hT; (try dsimp only at hT); go_simp; try with_reducible rfl)
     try simp only [Act.put, List.setIfInBounds_toArray, List.set_cons_zero, List.set_cons_succ]
     refine wpAnyH_take (i := 18) (v := ?_) (by simp only [List.getElem?_toArray, List.getElem?_cons_succ, List.getElem?_cons_zero]; rfl) (by kernel_rfl) (by kernel_rfl) (by kernel_rfl) (by intro _ _ _ h; exact h) (Or.inl ⟨by rfl, ?_⟩) (by assumption) ?_
     rotate_left
     focus (intro wT hT; (try dsimp only at hT); go_simp; try with_reducible rfl)
     try simp only [Act.put, List.setIfInBounds_toArray, List.set_cons_zero, List.set_cons_succ]
     refine wpAnyH_take (i := 19) (v := ?_) (by simp only [List.getElem?_toArray, List.getElem?_cons_succ, List.getElem?_cons_zero]; rfl) (by kernel_rfl) (by kernel_rfl) (by kernel_rfl) (by intro _ _ _ h; exact h) (Or.inl ⟨by rfl, ?_⟩) (by assumption) ?_
     rotate_left
     focus (intro wT hT; (try dsimp only at hT); go_simp; try with_reducible rfl)
     try simp only [Act.put, List.setIfInBounds_toArray, List.set_cons_zero, List.set_cons_succ]
     refine wpAnyH_take (i := 20) (v := ?_) (by simp only [List.getElem?_toArray, List.getElem?_cons_succ, List.getElem?_cons_zero]; rfl) (by kernel_rfl) (by kernel_rfl) (by kernel_rfl) (by intro _ _ _ h; exact h) (Or.inl ⟨by rfl, ?_⟩) (by assumption) ?_
     rotate_left
     focus (intro wT hT; (try dsimp only at hT); go_simp; try with_reducible rfl)
     try simp only [Act.put, List.setIfInBounds_toArray, List.set_cons_zero, List.set_cons_succ]
     refine wpAnyH_take (i := 22) (v := ?_) (by simp only [List.getElem?_toArray, List.getElem?_cons_succ, List.getElem?_cons_zero]; rfl) (by kernel_rfl) (by kernel_rfl) (by kernel_rfl) (by intro _ _ _ h; exact h) (Or.inl ⟨by rfl, ?_⟩) (by assumption) ?_
     rotate_left
     focus (intro wT hT; (try dsimp only at hT); go_simp; try with_reducible rfl)
     try simp only [Act.put, List.setIfInBounds_toArray, List.set_cons_zero, List.set_cons_succ]
     refine wpAnyH_take (i := 25) (v := ?_) (by simp only [List.getElem?_toArray, List.getElem?_cons_succ, List.getElem?_cons_zero]; rfl) (by kernel_rfl) (by kernel_rfl) (by kernel_rfl) (by intro _ _ _ h; exact h) (Or.inl ⟨by rfl, ?_⟩) (by assumption) ?_
     rotate_left
     focus (intro wT hT; (try dsimp only at hT); go_simp; try with_reducible rfl)
     try simp only [Act.put, List.setIfInBounds_toArray, List.set_cons_zero, List.set_cons_succ]
     refine wpAnyH_take (i := 26) (v := ?_) (by simp only [List.getElem?_toArray, List.getElem?_cons_succ, List.getElem?_cons_zero]; rfl) (by kernel_rfl) (by kernel_rfl) (by kernel_rfl) (by intro _ _ _ h; exact h) (Or.inl ⟨by rfl, ?_⟩) (by assumption) ?_
     rotate_left
     focus (intro wT hT; (try dsimp only at hT); go_simp; try with_reducible rfl)
     try simp only [Act.put, List.setIfInBounds_toArray, List.set_cons_zero, List.set_cons_succ]
     refine wpAnyH_take (i := 27) (v := ?_) (by simp only [List.getElem?_toArray, List.getElem?_cons_succ, List.getElem?_cons_zero]; rfl) (by kernel_rfl) (by kernel_rfl) (by kernel_rfl) (by intro _ _ _ h; exact h) (Or.inl ⟨by rfl, ?_⟩) (by assumption) ?_
     rotate_left
     focus (intro wT hT; (try dsimp only at hT); go_simp; try with_reducible rfl)
     try simp only [Act.put, List.setIfInBounds_toArray, List.set_cons_zero, List.set_cons_succ]
     refine wpAnyH_ready (rs := [3]) (by kernel_rfl) (by simp) (AllReadyH.cons (by simp only [List.getElem?_toArray, List.getElem?_cons_succ, List.getElem?_cons_zero]; rfl) (fun K hK => ?_) AllReadyH.nil)
     go_simp
     go_at_call 178; refine (rRotrB _ _ _ (by decide)).mono ?_; rintro e wa ⟨rfl, hbx⟩; have hbwa : Below w2.heap.size w2 wa := ((Below.refl w2.heap.size w2).drew).trans hbx; have HMwa := Lib.hid (HM2.out.older hbwa); clear hbx; clear c0 c1 c2 c3 c4 c5 c6 c7 hz hzq hww; have c0 : wa.cell? ⟨p, 0, none⟩ = some (.int .u32 va) := HMwa.out.pb.cell (i := 0) rfl; have c1 : wa.cell? ⟨p, 1, none⟩ = some (.int .u32 vb) := HMwa.out.pb.cell (i := 1) rfl; have c2 : wa.cell? ⟨p, 2, none⟩ = some (.int .u32 vc) := HMwa.out.pb.cell (i := 2) rfl; have c3 : wa.cell? ⟨p, 3, none⟩ = some (.int .u32 vd) := HMwa.out.pb.cell (i := 3) rfl; have c4 : wa.cell? ⟨p, 4, none⟩ = some (.int .u32 ve) := HMwa.out.pb.cell (i := 4) rfl; have c5 : wa.cell? ⟨p, 5, none⟩ = some (.int .u32 vf) := HMwa.out.pb.cell (i := 5) rfl; have c6 : wa.cell? ⟨p, 6, none⟩ = some (.int .u32 vg) := HMwa.out.pb.cell (i := 6) rfl; have c7 : wa.cell? ⟨p, 7, none⟩ = some (.int .u32 vh) := HMwa.out.pb.cell (i := 7) rfl; have hz := HMwa.out.pb.lt; have hzq := HMwa.out.qb.lt; have hww := HMwa.out.qb.cell (i := k) (wvals_at (by rw [schedL_len]; exact hlt)); rw [show (schedL b 64).getD k 0 = wAt (schedL b 64) k from rfl, HKW.out.2] at hww
     go_wp2_with fail
     refine hK.out _ _ (by exact ⟨c4, c5, c6, c7, hww⟩) (fun hHe2 => ?_)
     clear hK K
     try simp only [Act.put, List.setIfInBounds_toArray, List.set_cons_zero, List.set_cons_succ]
     refine wpAnyH_ready (rs := [5]) (by kernel_rfl) (by simp) (AllReadyH.cons (by simp only [List.getElem?_toArray, List.getElem?_cons_succ, List.getElem?_cons_zero]; rfl) (fun K hK => ?_) AllReadyH.nil)
     go_simp
     go_at_call 178; refine (rRotrB _ _ _ (by decide)).mono ?_; rintro e wb ⟨rfl, hbx⟩; have hbwb : Below w2.heap.size w2 wb := hbwa.trans (hbx.mono hbwa.size); have HMwb := Lib.hid (HM2.out.older hbwb); clear hbx; clear c0 c1 c2 c3 c4 c5 c6 c7 hz hzq hww; have c0 : wb.cell? ⟨p, 0, none⟩ = some (.int .u32 va) := HMwb.out.pb.cell (i := 0) rfl; have c1 : wb.cell? ⟨p, 1, none⟩ = some (.int .u32 vb) := HMwb.out.pb.cell (i := 1) rfl; have c2 : wb.cell? ⟨p, 2, none⟩ = some (.int .u32 vc) := HMwb.out.pb.cell (i := 2) rfl; have c3 : wb.cell? ⟨p, 3, none⟩ = some (.int .u32 vd) := HMwb.out.pb.cell (i := 3) rfl; have c4 : wb.cell? ⟨p, 4, none⟩ = some (.int .u32 ve) := HMwb.out.pb.cell (i := 4) rfl; have c5 : wb.cell? ⟨p, 5, none⟩ = some (.int .u32 vf) := HMwb.out.pb.cell (i := 5) rfl; have c6 : wb.cell? ⟨p, 6, none⟩ = some (.int .u32 vg) := HMwb.out.pb.cell (i := 6) rfl; have c7 : wb.cell? ⟨p, 7, none⟩ = some (.int .u32 vh) := HMwb.out.pb.cell (i := 7) rfl; have hz := HMwb.out.pb.lt; have hzq := HMwb.out.qb.lt; have hww := HMwb.out.qb.cell (i := k) (wvals_at (by rw [schedL_len]; exact hlt)); rw [show (schedL b 64).getD k 0 = wAt (schedL b 64) k from rfl, HKW.out.2] at hww
     go_wp2_with fail
     refine hK.out _ _ (by exact ⟨c4, c5, c6, c7, hww⟩) (fun hHe3 => ?_)
     clear hK K
     try simp only [Act.put, List.setIfInBounds_toArray, List.set_cons_zero, List.set_cons_succ]
     refine wpAnyH_take (i := 6) (v := ?_) (by simp only [List.getElem?_toArray, List.getElem?_cons_succ, List.getElem?_cons_zero]; rfl) (by kernel_rfl) (by kernel_rfl) (by kernel_rfl) (by intro _ _ _ h; exact h) (Or.inl ⟨by rfl, ?_⟩) (by assumption) ?_
     rotate_left
     focus (intro wT hT; (try dsimp only at hT); go_simp; try with_reducible rfl)
     try simp only [Act.put, List.setIfInBounds_toArray, List.set_cons_zero, List.set_cons_succ]
     refine wpAnyH_ready (rs := [8]) (by kernel_rfl) (by simp) (AllReadyH.cons (by simp only [List.getElem?_toArray, List.getElem?_cons_succ, List.getElem?_cons_zero]; rfl) (fun K hK => ?_) AllReadyH.nil)
     go_simp
     go_at_call 178; refine (rRotrB _ _ _ (by decide)).mono ?_; rintro e wc ⟨rfl, hbx⟩; have hbwc : Below w2.heap.size w2 wc := hbwb.trans (hbx.mono hbwb.size); have HMwc := Lib.hid (HM2.out.older hbwc); clear hbx; clear c0 c1 c2 c3 c4 c5 c6 c7 hz hzq hww; have c0 : wc.cell? ⟨p, 0, none⟩ = some (.int .u32 va) := HMwc.out.pb.cell (i := 0) rfl; have c1 : wc.cell? ⟨p, 1, none⟩ = some (.int .u32 vb) := HMwc.out.pb.cell (i := 1) rfl; have c2 : wc.cell? ⟨p, 2, none⟩ = some (.int .u32 vc) := HMwc.out.pb.cell (i := 2) rfl; have c3 : wc.cell? ⟨p, 3, none⟩ = some (.int .u32 vd) := HMwc.out.pb.cell (i := 3) rfl; have c4 : wc.cell? ⟨p, 4, none⟩ = some (.int .u32 ve) := HMwc.out.pb.cell (i := 4) rfl; have c5 : wc.cell? ⟨p, 5, none⟩ = some (.int .u32 vf) := HMwc.out.pb.cell (i := 5) rfl; have c6 : wc.cell? ⟨p, 6, none⟩ = some (.int .u32 vg) := HMwc.out.pb.cell (i := 6) rfl; have c7 : wc.cell? ⟨p, 7, none⟩ = some (.int .u32 vh) := HMwc.out.pb.cell (i := 7) rfl; have hz := HMwc.out.pb.lt; have hzq := HMwc.out.qb.lt; have hww := HMwc.out.qb.cell (i := k) (wvals_at (by rw [schedL_len]; exact hlt)); rw [show (schedL b 64).getD k 0 = wAt (schedL b 64) k from rfl, HKW.out.2] at hww
     go_wp2_with fail
     refine hK.out _ _ (by exact ⟨c4, c5, c6, c7, hww⟩) (fun hHe4 => ?_)
     clear hK K
     try simp only [Act.put, List.setIfInBounds_toArray, List.set_cons_zero, List.set_cons_succ]
     refine wpAnyH_take (i := 9) (v := ?_) (by simp only [List.getElem?_toArray, List.getElem?_cons_succ, List.getElem?_cons_zero]; rfl) (by kernel_rfl) (by kernel_rfl) (by kernel_rfl) (by intro _ _ _ h; exact h) (Or.inl ⟨by rfl, ?_⟩) (by assumption) ?_
     rotate_left
     focus (intro wT hT; (try dsimp only at hT); go_simp; try with_reducible rfl)
     try simp only [Act.put, List.setIfInBounds_toArray, List.set_cons_zero, List.set_cons_succ]
     refine wpAnyH_take (i := 10) (v := ?_) (by simp only [List.getElem?_toArray, List.getElem?_cons_succ, List.getElem?_cons_zero]; rfl) (by kernel_rfl) (by kernel_rfl) (by kernel_rfl) (by intro _ _ _ h; exact h) (Or.inl ⟨by rfl, ?_⟩) (by assumption) ?_
     rotate_left
     focus (intro wT hT; (try dsimp only at hT); go_simp; try with_reducible rfl)
     try simp only [Act.put, List.setIfInBounds_toArray, List.set_cons_zero, List.set_cons_succ]
     refine wpAnyH_take (i := 21) (v := ?_) (by simp only [List.getElem?_toArray, List.getElem?_cons_succ, List.getElem?_cons_zero]; rfl) (by kernel_rfl) (by kernel_rfl) (by kernel_rfl) (by intro _ _ _ h; exact h) (Or.inl ⟨by rfl, ?_⟩) (by assumption) ?_
     rotate_left
     focus (intro wT hT; (try dsimp only at hT); go_simp; try with_reducible rfl)
     try simp only [Act.put, List.setIfInBounds_toArray, List.set_cons_zero, List.set_cons_succ]
     refine wpAnyH_ready (rs := [23]) (by kernel_rfl) (by simp) (AllReadyH.cons (by simp only [List.getElem?_toArray, List.getElem?_cons_succ, List.getElem?_cons_zero]; rfl) (fun K hK => ?_) AllReadyH.nil)
     go_simp
     go_at_call 179; refine (hconst.out _).mono ?_; rintro e wd ⟨rfl, hbx⟩; have hbwd : Below w2.heap.size w2 wd := hbwc.trans (hbx.mono hbwc.size); have HMwd := Lib.hid (HM2.out.older hbwd); clear hbx; clear c0 c1 c2 c3 c4 c5 c6 c7 hz hzq hww; have c0 : wd.cell? ⟨p, 0, none⟩ = some (.int .u32 va) := HMwd.out.pb.cell (i := 0) rfl; have c1 : wd.cell? ⟨p, 1, none⟩ = some (.int .u32 vb) := HMwd.out.pb.cell (i := 1) rfl; have c2 : wd.cell? ⟨p, 2, none⟩ = some (.int .u32 vc) := HMwd.out.pb.cell (i := 2) rfl; have c3 : wd.cell? ⟨p, 3, none⟩ = some (.int .u32 vd) := HMwd.out.pb.cell (i := 3) rfl; have c4 : wd.cell? ⟨p, 4, none⟩ = some (.int .u32 ve) := HMwd.out.pb.cell (i := 4) rfl; have c5 : wd.cell? ⟨p, 5, none⟩ = some (.int .u32 vf) := HMwd.out.pb.cell (i := 5) rfl; have c6 : wd.cell? ⟨p, 6, none⟩ = some (.int .u32 vg) := HMwd.out.pb.cell (i := 6) rfl; have c7 : wd.cell? ⟨p, 7, none⟩ = some (.int .u32 vh) := HMwd.out.pb.cell (i := 7) rfl; have hz := HMwd.out.pb.lt; have hzq := HMwd.out.qb.lt; have hww := HMwd.out.qb.cell (i := k) (wvals_at (by rw [schedL_len]; exact hlt)); rw [show (schedL b 64).getD k 0 = wAt (schedL b 64) k from rfl, HKW.out.2] at hww
     go_wp2_with fail
     refine hK.out _ _ (by exact ⟨c4, c5, c6, c7, hww⟩) (fun hHe5 => ?_)
     clear hK K
     try simp only [Act.put, List.setIfInBounds_toArray, List.set_cons_zero, List.set_cons_succ]
     refine wpAnyH_take (i := 24) (v := ?_) (by simp only [List.getElem?_toArray, List.getElem?_cons_succ, List.getElem?_cons_zero]; rfl) (by kernel_rfl) (by kernel_rfl) (by kernel_rfl) (by intro _ _ _ h; exact h) (Or.inl ⟨by rfl, ?_⟩) (by assumption) ?_
     rotate_left
     focus (intro wT hT; (try dsimp only at hT); go_simp; try with_reducible rfl)
     try simp only [Act.put, List.setIfInBounds_toArray, List.set_cons_zero, List.set_cons_succ]
     refine wpAnyH_take (i := 28) (v := ?_) (by simp only [List.getElem?_toArray, List.getElem?_cons_succ, List.getElem?_cons_zero]; rfl) (by kernel_rfl) (by kernel_rfl) (by kernel_rfl) (by intro _ _ _ h; exact h) (Or.inl ⟨by rfl, ?_⟩) (by assumption) ?_
     rotate_left
     focus (intro wT hT; (try dsimp only at hT); go_simp; try with_reducible rfl)
     try simp only [Act.put, List.setIfInBounds_toArray, List.set_cons_zero, List.set_cons_succ]
     refine wpAnyH_take (i := 29) (v := ?_) (by simp only [List.getElem?_toArray, List.getElem?_cons_succ, List.getElem?_cons_zero]; rfl) (by kernel_rfl) (by kernel_rfl) (by kernel_rfl) (by intro _ _ _ h; exact h) (Or.inl ⟨by rfl, ?_⟩) (by assumption) ?_
     rotate_left
     focus (intro wT hT; (try dsimp only at hT); go_simp; try with_reducible rfl)
     try simp only [Act.put, List.setIfInBounds_toArray, List.set_cons_zero, List.set_cons_succ]
     refine wpAnyH_done (by kernel_rfl) ?_ _
     go_wp2_with fail
     go_quiet ((go_at_call 178; exact rRotrQ _ _ _ _ (by decide)))
     generalize hw9 : wd.drewN nq = w4
     have hb9 : Below wd.heap.size wd w4 := by rw [← hw9]; exact below_drewN (Below.refl _ _) _
     have HM4 := Lib.hid (HMwd.out.older hb9)
     clear hw9 hb9 c0 c1 c2 c3 c4 c5 c6 c7 hz hzq hww
     have c0 : w4.cell? ⟨p, 0, none⟩ = some (.int .u32 va) := HM4.out.pb.cell (i := 0) rfl
     have c1 : w4.cell? ⟨p, 1, none⟩ = some (.int .u32 vb) := HM4.out.pb.cell (i := 1) rfl
     have c2 : w4.cell? ⟨p, 2, none⟩ = some (.int .u32 vc) := HM4.out.pb.cell (i := 2) rfl
     have c3 : w4.cell? ⟨p, 3, none⟩ = some (.int .u32 vd) := HM4.out.pb.cell (i := 3) rfl
     have c4 : w4.cell? ⟨p, 4, none⟩ = some (.int .u32 ve) := HM4.out.pb.cell (i := 4) rfl
     have c5 : w4.cell? ⟨p, 5, none⟩ = some (.int .u32 vf) := HM4.out.pb.cell (i := 5) rfl
     have c6 : w4.cell? ⟨p, 6, none⟩ = some (.int .u32 vg) := HM4.out.pb.cell (i := 6) rfl
     have c7 : w4.cell? ⟨p, 7, none⟩ = some (.int .u32 vh) := HM4.out.pb.cell (i := 7) rfl
     have hz := HM4.out.pb.lt
     have hzq := HM4.out.qb.lt
     have hww := HM4.out.qb.cell (i := k) (wvals_at (by rw [schedL_len]; exact hlt))
     rw [show (schedL b 64).getD k 0 = wAt (schedL b 64) k from rfl, HKW.out.2] at hww
     obtain ⟨t1, ht1⟩ : ∃ t1, t1M ⟨va, vb, vc, vd, ve, vf, vg, vh⟩ kx wx = t1 := ⟨_, rfl⟩
     obtain ⟨t2, ht2⟩ : ∃ t2, t2M ⟨va, vb, vc, vd, ve, vf, vg, vh⟩ = t2 := ⟨_, rfl⟩
     have hT1 : IntKind.u32.wrap (IntKind.u32.wrap (IntKind.u32.wrap (IntKind.u32.wrap (vh + bits .xor .u32 (bits .xor .u32 (rotN ve 6) (rotN ve 11)) (rotN ve 25)) + bits .xor .u32 (bits .and .u32 ve vf) (bits .and .u32 (bits .xor .u32 IntKind.u32.max ve) vg)) + kx) + wx) = t1 := by rw [← ht1]; simp only [t1M, IntKind.wrap_u32, Int.emod_add_emod]
     rw [hT1, show (bits .xor .u32 (bits .xor .u32 (rotN va 2) (rotN va 13)) (rotN va 22) + bits .xor .u32 (bits .xor .u32 (bits .and .u32 va vb) (bits .and .u32 va vc)) (bits .and .u32 vb vc)) % 4294967296 = t2 from ht2]
     have HST := Lib.hid (show roundsM (schedL b 64) ⟨sa, sb, sc, sd, se, sf, sg, sh⟩ (k + 1) = ⟨(t1 + t2) % 4294967296, va, vb, vc, (vd + t1) % 4294967296, ve, vf, vg⟩ by rw [roundsM, HV.out, HKW.out.1, HKW.out.2]; unfold roundM; rw [ht1, ht2])
     clear ht1 ht2 hT1
     have f0 := HM4.out.pb.frz 0
     have f1 := HM4.out.pb.frz 1
     have f2 := HM4.out.pb.frz 2
     have f3 := HM4.out.pb.frz 3
     have f4 := HM4.out.pb.frz 4
     have f5 := HM4.out.pb.frz 5
     have f6 := HM4.out.pb.frz 6
     have f7 := HM4.out.pb.frz 7
     go_wp2_with fail
     go_roundg (gk - 1)
     case rel =>
      refine ⟨k + 1, by go_num, by omega, Lib.hid (by have := HQ.out; omega), ?_⟩
      rw [HST.out]
      have m0 := HM4.out.put1 HPQ.out.1 HPQ.out.2.1 HPQ.out.2.2.1 HPQ.out.2.2.2 0 (.int .u32 ((t1 + t2) % 4294967296))
      have m1 := m0.put1 HPQ.out.1 HPQ.out.2.1 HPQ.out.2.2.1 HPQ.out.2.2.2 1 (.int .u32 va)
      have m2 := m1.put1 HPQ.out.1 HPQ.out.2.1 HPQ.out.2.2.1 HPQ.out.2.2.2 2 (.int .u32 vb)
      have m3 := m2.put1 HPQ.out.1 HPQ.out.2.1 HPQ.out.2.2.1 HPQ.out.2.2.2 3 (.int .u32 vc)
      have m4 := m3.put1 HPQ.out.1 HPQ.out.2.1 HPQ.out.2.2.1 HPQ.out.2.2.2 4 (.int .u32 ((vd + t1) % 4294967296))
      have m5 := m4.put1 HPQ.out.1 HPQ.out.2.1 HPQ.out.2.2.1 HPQ.out.2.2.2 5 (.int .u32 ve)
      have m6 := m5.put1 HPQ.out.1 HPQ.out.2.1 HPQ.out.2.2.1 HPQ.out.2.2.2 6 (.int .u32 vf)
      have m7 := m6.put1 HPQ.out.1 HPQ.out.2.1 HPQ.out.2.2.1 HPQ.out.2.2.2 7 (.int .u32 vg)
      exact m7
     case measure => have := HQ.out; omega
    ·have hk64 : k = 64 := by omega
     subst hk64
     obtain ⟨v, hv⟩ : ∃ v, roundsM (schedL b 64) ⟨sa, sb, sc, sd, se, sf, sg, sh⟩ 64 = v := ⟨_, rfl⟩
     have HV := Lib.hid hv
     rw [hv] at HM
     clear hv
     have HM0 := Lib.hid (show BlkS w wr p q w.heap.size (w.heap.size + 1) (stV v) (wvals (schedL b 64)) (wvals (sumR v ⟨sa, sb, sc, sd, se, sf, sg, sh⟩ 0)) from HM.out)
     go_wp2_with fail
     go_loopg [148, 15] 8 (fun gq iv s15 wr => ∃ k : Nat, iv = .int .i64 k ∧ k ≤ 8 ∧ Hid (8 ≤ gq + k) ∧ BlkS w wr p q w.heap.size (w.heap.size + 1) (stV v) (wvals (schedL b 64)) (wvals (sumR v ⟨sa, sb, sc, sd, se, sf, sg, sh⟩ k)))
     case atStart => exact ⟨0, rfl, Nat.zero_le _, Lib.hid (by omega), HM0.out⟩
     case round =>
      obtain ⟨k, rfl, hk, HQ, hm⟩ := hrel
      clear HM0 HM
      have HM := Lib.hid hm
      clear hm
      by_cases hlt : k < 8
      ·have d0 : wr.cell? ⟨w.heap.size, k, none⟩ = some (.int .u32 ((stL ⟨sa, sb, sc, sd, se, sf, sg, sh⟩).getD k 0)) := by
        have h9 := HM.out.rb.cell (i := k) (wvals_at (by rw [sumR_len v ⟨sa, sb, sc, sd, se, sf, sg, sh⟩ k (by omega)]; exact hlt))
        rwa [sumR_at v ⟨sa, sb, sc, sd, se, sf, sg, sh⟩ hlt] at h9
       have d1 : wr.cell? ⟨p, k, none⟩ = some (.int .u32 ((stL v).getD k 0)) := HM.out.pb.cell (i := k) (by rw [stV_eq]; exact wvals_at hlt)
       obtain ⟨x, hx⟩ : ∃ x, (stL ⟨sa, sb, sc, sd, se, sf, sg, sh⟩).getD k 0 = x := ⟨_, rfl⟩
       obtain ⟨y, hy⟩ : ∃ x, (stL v).getD k 0 = x := ⟨_, rfl⟩
       have HSK := Lib.hid (show (sumR v ⟨sa, sb, sc, sd, se, sf, sg, sh⟩ k).set k ((x + y) % 4294967296) = sumR v ⟨sa, sb, sc, sd, se, sf, sg, sh⟩ (k + 1) by rw [← hx, ← hy]; exact sumR_set v ⟨sa, sb, sc, sd, se, sf, sg, sh⟩ hlt)
       rw [hx] at d0
       rw [hy] at d1
       have f0 := HM.out.rb.frz k
       have hz := HM.out.pb.lt
       have hzr := HM.out.rb.lt
       have hk0 : (0 : Int) ≤ (k : Int) := by omega
       have hk8 : (k : Int) < 8 := by omega
       clear hx hy
       go_wp2_with fail
       go_still_tail 8, (by kernel_rfl)
       change wpList _ _ _ _ _ wr.drew
       generalize hw9 : wr.drew = w9
       have hb9 : Below wr.heap.size wr w9 := by rw [← hw9]; exact (Below.refl _ _).drew
       have HM9 := Lib.hid (HM.out.older hb9)
       clear hw9 hb9 d0 d1 f0 hz hzr
       have d0 := HM9.out.rb.cell (i := k) (wvals_at (by rw [sumR_len v ⟨sa, sb, sc, sd, se, sf, sg, sh⟩ k (by omega)]; exact hlt))
       have f0 := HM9.out.rb.frz k
       have hz := HM9.out.rb.lt
       go_wp2_with fail
       go_roundg (gk - 1)
       case rel =>
        refine ⟨k + 1, by go_num, by omega, Lib.hid (by have := HQ.out; omega), ?_⟩
        have h9 := HM9.out.putR (Nat.le_refl _) (fun e => HPQ.out.2.2.1 e.symm) (fun e => HQR.out.2.1 e.symm) (by omega) k (.int .u32 ((x + y) % 4294967296))
        rw [wvals_set, HSK.out] at h9
        exact h9
       case measure => have := HQ.out; omega
      ·have hk8 : k = 8 := by omega
       subst hk8
       have HE := Lib.hid (show mixM ⟨sa, sb, sc, sd, se, sf, sg, sh⟩ b = addS v ⟨sa, sb, sc, sd, se, sf, sg, sh⟩ by unfold mixM; rw [HV.out])
       have HM8 := Lib.hid (show BlkS w wr p q w.heap.size (w.heap.size + 1) (stV v) (wvals (schedL b 64)) (stV (addS v ⟨sa, sb, sc, sd, se, sf, sg, sh⟩)) from HM.out)
       have hbf := below_setRow HM8.out.bel (Nat.le_succ w.heap.size) (stV (addS v ⟨sa, sb, sc, sd, se, sf, sg, sh⟩))
       have HBF := Lib.hid hbf
       have HXF := Lib.hid (bx_setRow (cs' := stV (addS v ⟨sa, sb, sc, sd, se, sf, sg, sh⟩)) HM8.out.tb)
       clear hbf
       go_wp2_with (first
        | (refine wpList_load_row rfl 155 _ rfl w.heap.size rfl 155 (stV (addS v ⟨sa, sb, sc, sd, se, sf, sg, sh⟩)) (0, 0) _ HM8.out.rb Tryz.underlying155 rfl (HI8.out _ rfl) ?_)
        | (refine wpList_store_rowTo rfl 155 _ _ rfl rfl (w.heap.size + 1) (stV (addS v ⟨sa, sb, sc, sd, se, sf, sg, sh⟩)) rfl rfl 155 _ HM8.out.tb (HI8.out _ rfl) (by rfl) (wvals_one (stL _)) ?_))
       exact bodyPost_ret (v := .agg (stV (addS v ⟨sa, sb, sc, sd, se, sf, sg, sh⟩))) (results_cell_row Tryz.results167 _ _ (w.heap.size + 1) 155 _ (0, 0) _ rfl HXF.out Tryz.underlying155 rfl (HI8.out _ rfl)) rfl ⟨by rw [HE.out], HBF.out⟩
end Dg
end Go.Proofs.YtpkhbhdidkkebaaGreatDoor
end

