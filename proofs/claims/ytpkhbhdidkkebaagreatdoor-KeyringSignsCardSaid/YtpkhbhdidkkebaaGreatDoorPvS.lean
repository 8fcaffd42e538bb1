/- Contracts and plain facts that the statement's proof leans on (texts joined). No condition beyond those that each names. -/
import Derived.Test.YtpkhbhdidkkebaaGreatDoorPvJ
import Derived.Test.YtpkhbhdidkkebaaGreatDoorPvR
section
namespace Go.Proofs.YtpkhbhdidkkebaaGreatDoor
open Go.RowKit Pl Ad
attribute [local go_sem] ba_get ba_append ba_extract_end ba_extract_zero ba_extract
set_option maxRecDepth 100000
set_option maxHeartbeats 4000000
set_option linter.unusedVariables false
set_option linter.unusedSimpArgs false
namespace Kr
theorem Bx.setO {w : World} {R T q i : Nat} {cs : Array Value} {u : Value} (h : Bx w R T cs) (hne : ¬ R = q) : Bx (w.setCell ⟨q, i, none⟩ u) R T cs := h.touch (touch_set1 w q i u) hne
theorem own_setB {w : World} {B e size n q T i : Nat} {u v : Value} {xs : List Value} {cs : Array Value} (h : OwnWin w B e size u n xs) (hb : Bx w q T cs) (hne : e ≠ T) : OwnWin (w.setCell ⟨q, i, none⟩ v) B e size u n xs :=
 h.touch (touch_set1 w q i v) (fun k hk hq => hb.neOwn h hne k hk hq)
theorem sign_some (B R : Nat) (t n : Int) (V : Nat → Value) (E : Nat → List Ent) (w : World) (h : RingAt w B R V E) (hl : (tlK E t).length ≤ 1000000) (j : Nat) (x : Ent) (hs : signI (keysOf E t) n = some j) (hx : (tlK E t)[j]? = some x) (hsl : x.key.sec.length ≤ 1000000) :
 Calls Tryz.prog 33 #[ptrK R, .int .i64 t, .int .i64 n] w fun e w' => ∃ ua uc, e = .returned (.tuple #[keyV x.key.id (.slice ua x.key.sec.length uc) x.key.frm x.key.til, .nilIface]) ∧ OwnWin w' w.heap.size 5 1 (.slice ua x.key.sec.length uc) x.key.sec.length (bvals x.key.sec) ∧ Below w.heap.size w w' := by
 have hb0 := (Below.refl w.heap.size w).alloc (Nat.le_refl _) (.cells #[.string ⟨#[]⟩, .slice none 0 0, .int .i64 0, .int .i64 0] 74)
 have HR := Lib.hid (h.older hb0)
 have HB := Lib.hid hb0
 have HX := Lib.hid (Bx.new w 74 #[.string ⟨#[]⟩, .slice none 0 0, .int .i64 0, .int .i64 0])
 have HP := Lib.hid (show ptrP (tlK E t) (pickE (tlK E t) n (tlK E t).length) = ptrK x.blk by
  rw [pickE_keys]; show ptrP (tlK E t) (signI (keysOf E t) n) = _; rw [hs]; exact ptrP_at hx)
 have hxat := (h.older hb0).found (t := t) (List.mem_of_getElem? hx)
 have HE := Lib.hid hxat
 obtain ⟨⟨c0, c1, c2, c3, c4⟩, _, hz⟩ := hxat.facts
 obtain ⟨xa, xc, hsv, _⟩ := hxat.sec.form
 have HSV := Lib.hid hsv
 rw [hsv] at c1
 clear h hb0 hs hx hxat hsv
 go_enter Tryz.func33, Tryz.ntmps33
 go_wp2_with (go_at_call 42; refine (signing_any B R t n V E _ HR.out hl).mono ?_; rw [HP.out]; rintro e w' ⟨rfl, q, rfl⟩)
 have hb2 : Below (w.alloc (.cells #[.string ⟨#[]⟩, .slice none 0 0, .int .i64 0, .int .i64 0] 74)).heap.size (w.alloc (.cells #[.string ⟨#[]⟩, .slice none 0 0, .int .i64 0, .int .i64 0] 74)) (((w.alloc (.cells #[.string ⟨#[]⟩, .slice none 0 0, .int .i64 0, .int .i64 0] 74)).drewN q).alloc (.cells #[.string ⟨x.key.id.toArray⟩, .slice xa x.key.sec.length xc, .int .i64 x.key.frm, .int .i64 x.key.til] 74)) := (below_drewN (Below.refl (w.alloc (.cells #[.string ⟨#[]⟩, .slice none 0 0, .int .i64 0, .int .i64 0] 74)).heap.size (w.alloc (.cells #[.string ⟨#[]⟩, .slice none 0 0, .int .i64 0, .int .i64 0] 74))) q).alloc (by simp) _
 have HOC := Lib.hid (show OwnWin _ B 5 1 (.slice xa x.key.sec.length xc) x.key.sec.length (bvals x.key.sec) from HSV.out ▸ HE.out.sec.older hb2)
 have HXR := Lib.hid (HX.out.older hb2)
 have hxn := Bx.new ((w.alloc (.cells #[.string ⟨#[]⟩, .slice none 0 0, .int .i64 0, .int .i64 0] 74)).drewN q) 74 #[.string ⟨x.key.id.toArray⟩, .slice xa x.key.sec.length xc, .int .i64 x.key.frm, .int .i64 x.key.til]
 rw [show ((w.alloc (.cells #[.string ⟨#[]⟩, .slice none 0 0, .int .i64 0, .int .i64 0] 74)).drewN q).heap.size = w.heap.size + 1 by simp] at hxn
 have HXN := Lib.hid hxn
 have HB2 := Lib.hid (HB.out.trans (hb2.mono HB.out.size))
 clear hb2 hxn c0 c1 c2 c3 c4 hz
 refine (cloneB_any (.slice xa x.key.sec.length xc) x.key.sec _ (SrcAt.of HOC.out) hsl).mono ?_
 rintro e w3 ⟨u, rfl, hu, hb3⟩
 obtain ⟨ua, uc, rfl, _⟩ := hu.form
 have HXR3 := Lib.hid (HXR.out.older hb3)
 have HXN3 := Lib.hid (HXN.out.older hb3)
 have HB3 := Lib.hid (HB2.out.trans (hb3.mono HB2.out.size))
 have HU := Lib.hid hu
 have r0 := HXR3.out.cell (i := 0) rfl
 have r1 := HXR3.out.cell (i := 1) rfl
 have r2 := HXR3.out.cell (i := 2) rfl
 have r3 := HXR3.out.cell (i := 3) rfl
 have q0 := HXR3.out.frz 0
 have q1 := HXR3.out.frz 1
 have q2 := HXR3.out.frz 2
 have q3 := HXR3.out.frz 3
 have n0 := HXN3.out.cell (i := 0) rfl
 have n1 := HXN3.out.cell (i := 1) rfl
 have n2 := HXN3.out.cell (i := 2) rfl
 have n3 := HXN3.out.cell (i := 3) rfl
 have f1 := HXN3.out.frz 1
 have z1 := HXR3.out.lt
 have z2 := HXN3.out.lt
 clear hu hb3
 go_wp2
 refine bodyPost_ret (v := .tuple #[keyV x.key.id (.slice ua x.key.sec.length uc) x.key.frm x.key.til, .nilIface]) (by simp [results, Tryz.results33, go_sem, r0, r1, r2, r3, z1, z2]) rfl ⟨ua, uc, rfl, ?_, ?_⟩
 ·have hu0 := HU.out.mono (C := w.heap.size) (fun k hk => by have := (HU.out.lt k hk).1; have := HB2.out.size; omega)
  have b1 := HXR3.out.setO (q := w.heap.size + 1) (i := 1) (u := .slice ua x.key.sec.length uc) (by omega)
  exact own_setB (own_setB (own_setB (own_setB (own_setB hu0 HXN3.out (by decide)) b1 (by decide)) (b1.set _ _) (by decide)) ((b1.set _ _).set _ _) (by decide)) (((b1.set _ _).set _ _).set _ _) (by decide)
 ·exact ((((HB3.out.setCell (p := ⟨w.heap.size + 1, 1, none⟩) (by simp) _).setCell (p := ⟨w.heap.size, 0, none⟩) (Nat.le_refl _) _).setCell (p := ⟨w.heap.size, 1, none⟩) (Nat.le_refl _) _).setCell (p := ⟨w.heap.size, 2, none⟩) (Nat.le_refl _) _).setCell (p := ⟨w.heap.size, 3, none⟩) (Nat.le_refl _) _
end Kr
end Go.Proofs.YtpkhbhdidkkebaaGreatDoor
end

section
namespace Go.Proofs.YtpkhbhdidkkebaaGreatDoor
open Go.RowKit Pl Ad
set_option maxRecDepth 100000
set_option maxHeartbeats 4000000
set_option linter.unusedVariables false
set_option linter.unusedSimpArgs false
namespace Dg
open Kr
/-- The cells of a Hash. -/
def hashC (s : St) (v : Value) (n : Int) : Array Value := #[.int .u32 s.a, .int .u32 s.b, .int .u32 s.c, .int .u32 s.d, .int .u32 s.e, .int .u32 s.f, .int .u32 s.g, .int .u32 s.h, v, .int .i64 n]
structure HashAt (w : World) (B R : Nat) (s : St) (v : Value) (l : Bs) (n : Nat) : Prop where
 hR : B ≤ R
 box : Bx w R 157 (hashC s v (n : Int))
 own : OwnWin w B 5 1 v l.length (bvals l)
theorem HashAt.older {w w' : World} {B R n : Nat} {s : St} {v : Value} {l : Bs} (h : HashAt w B R s v l n) (hb : Below w.heap.size w w') : HashAt w' B R s v l n := ⟨h.hR, h.box.older hb, h.own.older hb⟩
theorem ConstAt.belowB {w w' : World} {B : Nat} (h : ConstAt w) (hb : Below B w w') (hB : 0 < B) : ConstAt w' :=
 ⟨Nat.lt_of_lt_of_le h.lt hb.size, fun t ht => (hb.cell (p := ⟨_, t, none⟩) hB).trans (h.cell t ht)⟩
theorem HashAt.set9 {w : World} {B R n : Nat} {s : St} {v : Value} {l : Bs} (h : HashAt w B R s v l n) (m : Nat) : HashAt (w.setCell ⟨R, 9, none⟩ (.int .i64 (m : Int))) B R s v l m :=
 ⟨h.hR, h.box.set 9 _, own_setB h.own h.box (by decide)⟩
theorem HashAt.set8 {w : World} {B R n : Nat} {s : St} {v v' : Value} {l l' : Bs} (h : HashAt w B R s v l n) (ho : OwnWin w B 5 1 v' l'.length (bvals l')) : HashAt (w.setCell ⟨R, 8, none⟩ v') B R s v' l' n :=
 ⟨h.hR, h.box.set 8 _, own_setB ho h.box (by decide)⟩
theorem setS_cells (s s' : St) (v : Value) (n : Int) : ((((((((hashC s v n).setIfInBounds 0 (.int .u32 s'.a)).setIfInBounds 1 (.int .u32 s'.b)).setIfInBounds 2 (.int .u32 s'.c)).setIfInBounds 3 (.int .u32 s'.d)).setIfInBounds 4 (.int .u32 s'.e)).setIfInBounds 5 (.int .u32 s'.f)).setIfInBounds 6 (.int .u32 s'.g)).setIfInBounds 7 (.int .u32 s'.h) = hashC s' v n := by
 simp [hashC]
/-- A box and a slice, a cell of the box written. -/
def BoxOwn (w : World) (B R : Nat) (cs : Array Value) (v : Value) (l : Bs) : Prop := Bx w R 157 cs ∧ OwnWin w B 5 1 v l.length (bvals l)
theorem BoxOwn.set {w : World} {B R : Nat} {cs : Array Value} {v : Value} {l : Bs} (h : BoxOwn w B R cs v l) (i : Nat) (u : Value) : BoxOwn (w.setCell ⟨R, i, none⟩ u) B R (cs.setIfInBounds i u) v l :=
 ⟨h.1.set i u, own_setB h.2 h.1 (by decide)⟩
theorem HashAt.setS {w : World} {B R n : Nat} {s : St} {v : Value} {l : Bs} (h : HashAt w B R s v l n) (s' : St) : HashAt ((((((((w.setCell ⟨R, 0, none⟩ (.int .u32 s'.a)).setCell ⟨R, 1, none⟩ (.int .u32 s'.b)).setCell ⟨R, 2, none⟩ (.int .u32 s'.c)).setCell ⟨R, 3, none⟩ (.int .u32 s'.d)).setCell ⟨R, 4, none⟩ (.int .u32 s'.e)).setCell ⟨R, 5, none⟩ (.int .u32 s'.f)).setCell ⟨R, 6, none⟩ (.int .u32 s'.g)).setCell ⟨R, 7, none⟩ (.int .u32 s'.h)) B R s' v l n := by
 have h0 : BoxOwn w B R (hashC s v (n : Int)) v l := ⟨h.box, h.own⟩
 have h1 := h0.set 0 (.int .u32 s'.a)
 have h2 := h1.set 1 (.int .u32 s'.b)
 have h3 := h2.set 2 (.int .u32 s'.c)
 have h4 := h3.set 3 (.int .u32 s'.d)
 have h5 := h4.set 4 (.int .u32 s'.e)
 have h6 := h5.set 5 (.int .u32 s'.f)
 have h7 := h6.set 6 (.int .u32 s'.g)
 have h8 := h7.set 7 (.int .u32 s'.h)
 rw [setS_cells] at h8
 exact ⟨h.hR, h8.1, h8.2⟩
theorem below_setS {B R : Nat} {w0 w : World} {s' : St} (h : Below B w0 w) (hR : B ≤ R) : Below B w0 ((((((((w.setCell ⟨R, 0, none⟩ (.int .u32 s'.a)).setCell ⟨R, 1, none⟩ (.int .u32 s'.b)).setCell ⟨R, 2, none⟩ (.int .u32 s'.c)).setCell ⟨R, 3, none⟩ (.int .u32 s'.d)).setCell ⟨R, 4, none⟩ (.int .u32 s'.e)).setCell ⟨R, 5, none⟩ (.int .u32 s'.f)).setCell ⟨R, 6, none⟩ (.int .u32 s'.g)).setCell ⟨R, 7, none⟩ (.int .u32 s'.h)) :=
 (((((((h.setCell (p := ⟨R, 0, none⟩) hR _).setCell (p := ⟨R, 1, none⟩) hR _).setCell (p := ⟨R, 2, none⟩) hR _).setCell (p := ⟨R, 3, none⟩) hR _).setCell (p := ⟨R, 4, none⟩) hR _).setCell (p := ⟨R, 5, none⟩) hR _).setCell (p := ⟨R, 6, none⟩) hR _).setCell (p := ⟨R, 7, none⟩) hR _
theorem hashNew_any (w : World) : Calls Tryz.prog 59 #[] w fun e w' => e = .returned (ptrK w.heap.size) ∧ w' = w.alloc (.cells (hashC initS (.slice none 0 0) 0) 157) := by
 go_enter Tryz.func59, Tryz.ntmps59
 go_wp2
 go_ret
 exact ⟨rfl, rfl⟩
theorem hashAt_new (w : World) : HashAt (w.alloc (.cells (hashC initS (.slice none 0 0) 0) 157)) w.heap.size w.heap.size initS (.slice none 0 0) [] 0 :=
 ⟨Nat.le_refl _, Bx.new w _ _, OwnWin.nil _ _ _ _⟩
/-- A slice's first 64 bytes, as a block. -/
theorem own_blk {w : World} {B n : Nat} {g o c : Nat} {l : Bs} (h : OwnWin w B 5 1 (.slice (some ⟨g, o, none⟩) n c) n (bvals l)) (hn : n = l.length) (hl : 64 ≤ l.length) : BlkAt w (l.take 64) g o := by
 subst hn
 obtain ⟨g', o', c', e', _, _, _, hlt, hc⟩ := h.cells (by omega)
 cases e'
 refine ⟨by rw [List.length_take]; omega, hlt, fun i hi => ?_⟩
 rw [List.length_take] at hi
 have := hc i (.int .u8 ((l[i]'(by omega)).toNat : Int)) (by simp [bvals, show i < l.length by omega])
 rw [this, List.getElem_take]
theorem bvals_drop (l : Bs) (k : Nat) : (bvals l).drop k = bvals (l.drop k) := by simp [bvals]
theorem own_rest {w : World} {B : Nat} {g o c : Nat} {l : Bs} (h : OwnWin w B 5 1 (.slice (some ⟨g, o, none⟩) l.length c) l.length (bvals l)) (hl : 64 ≤ l.length) (hc : 64 < c) : OwnWin w B 5 1 (.slice (some ⟨g, o + 64, none⟩) (l.length - 64) (c - 64)) (l.drop 64).length (bvals (l.drop 64)) := by
 have h9 := h.drop rfl hl hc
 rw [Nat.mul_one, bvals_drop] at h9
 rw [List.length_drop]; exact h9
theorem own_rest0 {w : World} {B : Nat} {g o c : Nat} {l : Bs} (h : OwnWin w B 5 1 (.slice (some ⟨g, o, none⟩) l.length c) l.length (bvals l)) (hl : l.length = 64) : OwnWin w B 5 1 (.slice (some ⟨g, o, none⟩) 0 0) (l.drop 64).length (bvals (l.drop 64)) := by
 have h9 := h.dropAll rfl
 rw [show l.drop 64 = [] from List.drop_eq_nil_of_le (by omega)]; exact h9
theorem runL_step {mx : St → Bs → St} {s : St} {p : Bs} (h : 64 ≤ p.length) {s' : St} (hs : mx s (p.take 64) = s') : runL mx s' (p.drop 64) = runL mx s p := by
 rw [runL_go h, hs]
theorem write_any (B R : Nat) (s : St) (v sv : Value) (l m : Bs) (n : Nat) (w : World) (h : HashAt w B R s v l n) (hB : B ≤ w.heap.size) (hg : 0 < B) (hsrc : ∀ x, SrcAt (w.setCell ⟨R, 9, none⟩ x) sv m.length (bvals m)) (hsv : ∃ a c, sv = .slice a m.length c) (hc : ConstAt w) (hl : l.length ≤ 1073741824) (hm : m.length ≤ 1073741824) (hn : n ≤ 1073741824) :
 Calls Tryz.prog 60 #[ptrK R, sv] w fun e w' => e = .returned (.tuple #[]) ∧ ∃ v', HashAt w' B R (runL mixM s (l ++ m)).1 v' (runL mixM s (l ++ m)).2 (n + m.length) ∧ Below B w w' := by
 obtain ⟨sa0, sb0, sc0, sd0, se0, sf0, sg0, sh0⟩ := s
 obtain ⟨va, vc, rfl, hvc⟩ := h.own.form
 obtain ⟨ma, mc, rfl⟩ := hsv
 have HH := Lib.hid h
 have HC := Lib.hid hc
 have HSRC := Lib.hid hsrc
 have c0 : World.cell? w ⟨R, 0, none⟩ = some (.int .u32 sa0) := (h).box.cell (i := 0) rfl
 have c1 : World.cell? w ⟨R, 1, none⟩ = some (.int .u32 sb0) := (h).box.cell (i := 1) rfl
 have c2 : World.cell? w ⟨R, 2, none⟩ = some (.int .u32 sc0) := (h).box.cell (i := 2) rfl
 have c3 : World.cell? w ⟨R, 3, none⟩ = some (.int .u32 sd0) := (h).box.cell (i := 3) rfl
 have c4 : World.cell? w ⟨R, 4, none⟩ = some (.int .u32 se0) := (h).box.cell (i := 4) rfl
 have c5 : World.cell? w ⟨R, 5, none⟩ = some (.int .u32 sf0) := (h).box.cell (i := 5) rfl
 have c6 : World.cell? w ⟨R, 6, none⟩ = some (.int .u32 sg0) := (h).box.cell (i := 6) rfl
 have c7 : World.cell? w ⟨R, 7, none⟩ = some (.int .u32 sh0) := (h).box.cell (i := 7) rfl
 have c8 : World.cell? w ⟨R, 8, none⟩ = some (.slice va l.length vc) := (h).box.cell (i := 8) rfl
 have c9 : World.cell? w ⟨R, 9, none⟩ = some (.int .i64 (n : Int)) := (h).box.cell (i := 9) rfl
 have f8 := h.box.frz 8
 have f9 := h.box.frz 9
 have hz := h.box.lt
 have hR := h.hR
 have hnm : ((n : Int) + (m.length : Int)) ≤ 2147483648 := by omega
 have H1 := Lib.hid (HH.out.set9 (n + m.length))
 have HB1 := Lib.hid ((Below.refl B w).setCell (p := ⟨R, 9, none⟩) hR (.int .i64 ((n + m.length : Nat) : Int)))
 have hnc : ((n + m.length : Nat) : Int) = (n : Int) + (m.length : Int) := by omega
 rw [hnc] at H1 HB1
 have HZ1 := Lib.hid HB1.out.size
 have HZ1 := Lib.hid (Nat.le_trans hB HZ1.out)
 have HLM := Lib.hid (show (bvals m).length = m.length * 1 by rw [bvals_len]; omega)
 have HNM := Lib.hid (show l.length + m.length ≤ 1099511627776 by omega)
 clear h hc hsrc
 go_enter Tryz.func60, Tryz.ntmps60
 go_wp2_with ((at_builtin; refine wpList_appw tyBytes rfl _ _ rfl B (.slice va l.length vc) l.length (bvals l) rfl H1.out.own HZ1.out (.slice ma m.length mc) m.length (bvals m) rfl (HSRC.out _) HLM.out (bvals_one _) HNM.out ?_; intro v' w2 hown2 hgrow2 hlies2; rw [bvals_append] at hown2; obtain ⟨ua, uc, rfl, hvc2⟩ := hown2.form; have ht2 := Touch.of_grown (S := fun q => (Value.slice va l.length vc).ownBlock = some q) hgrow2 (fun k hk => hk); have hbx2 := H1.out.box.touch ht2 (fun hq => H1.out.box.neOwn H1.out.own (by decide) _ hq rfl); have HX2 := Lib.hid hbx2; have HB2 := Lib.hid (HB1.out.trans (ht2.below (B := B) HZ1.out (fun q hq => (H1.out.own.lt q hq).1))); have HO2 := Lib.hid hown2; have f8b := hbx2.frz 8; have hz2 := hbx2.lt; have c8b : World.cell? _ ⟨R, 8, none⟩ = some (.slice va l.length vc) := hbx2.cell (i := 8) rfl; clear hown2 hgrow2 hlies2 ht2 hbx2))
 have HP := Lib.hid (show HashAt (w2.setCell ⟨R, 8, none⟩ (.slice ua (l.length + m.length) uc)) B R ⟨sa0, sb0, sc0, sd0, se0, sf0, sg0, sh0⟩ (.slice ua (l.length + m.length) uc) (l ++ m) (n + m.length) from ⟨hR, by have h9 := HX2.out.set 8 (.slice ua (l.length + m.length) uc); exact h9, own_setB (by rw [List.length_append]; exact HO2.out) HX2.out (by decide)⟩)
 have HBP := Lib.hid (HB2.out.setCell (p := ⟨R, 8, none⟩) hR (.slice ua (l.length + m.length) uc))
 have HCP := Lib.hid (HC.out.belowB HBP.out hg)
 have hlm : (l ++ m).length ≤ 2147483648 := by rw [List.length_append]; omega
 clear c0 c1 c2 c3 c4 c5 c6 c7 c8 c9 f8 f9 hz f8b hz2 c8b
 go_loopg [24] (l ++ m).length (fun gq _ wr => ∃ (s' : St) (v' : Value) (l' : Bs), Hid (l'.length ≤ gq) ∧ l'.length ≤ 2147483648 ∧ HashAt wr B R s' v' l' (n + m.length) ∧ Hid (runL mixM s' l' = runL mixM ⟨sa0, sb0, sc0, sd0, se0, sf0, sg0, sh0⟩ (l ++ m)) ∧ Below B w wr)
 case atStart => exact ⟨⟨sa0, sb0, sc0, sd0, se0, sf0, sg0, sh0⟩, _, l ++ m, Lib.hid (Nat.le_refl _), hlm, HP.out, Lib.hid rfl, HBP.out⟩
 case round =>
  obtain ⟨s', v', l', HQ, hlen, hh, HRUN, hbel⟩ := hrel
  clear HP HBP HCP
  have HH := Lib.hid hh
  have HBW := Lib.hid hbel
  have HCW := Lib.hid (HC.out.belowB hbel hg)
  obtain ⟨ka, kc, rfl, hkc⟩ := hh.own.form
  obtain ⟨sa, sb, sc, sd, se, sf, sg, sh⟩ := s'
  have c0 : World.cell? wr ⟨R, 0, none⟩ = some (.int .u32 sa) := (hh).box.cell (i := 0) rfl
  have c1 : World.cell? wr ⟨R, 1, none⟩ = some (.int .u32 sb) := (hh).box.cell (i := 1) rfl
  have c2 : World.cell? wr ⟨R, 2, none⟩ = some (.int .u32 sc) := (hh).box.cell (i := 2) rfl
  have c3 : World.cell? wr ⟨R, 3, none⟩ = some (.int .u32 sd) := (hh).box.cell (i := 3) rfl
  have c4 : World.cell? wr ⟨R, 4, none⟩ = some (.int .u32 se) := (hh).box.cell (i := 4) rfl
  have c5 : World.cell? wr ⟨R, 5, none⟩ = some (.int .u32 sf) := (hh).box.cell (i := 5) rfl
  have c6 : World.cell? wr ⟨R, 6, none⟩ = some (.int .u32 sg) := (hh).box.cell (i := 6) rfl
  have c7 : World.cell? wr ⟨R, 7, none⟩ = some (.int .u32 sh) := (hh).box.cell (i := 7) rfl
  have c8 : World.cell? wr ⟨R, 8, none⟩ = some (.slice ka l'.length kc) := (hh).box.cell (i := 8) rfl
  have c9 : World.cell? wr ⟨R, 9, none⟩ = some (.int .i64 ((n + m.length : Nat) : Int)) := (hh).box.cell (i := 9) rfl
  have hz := hh.box.lt
  clear hh hbel
  by_cases hge : 64 ≤ l'.length
  ·obtain ⟨g, o, c, e', hnc2, hcm, hBg, hglt, _⟩ := HH.out.own.cells (by omega)
   cases e'
   have HBK := Lib.hid (own_blk HH.out.own rfl hge)
   have hgei : (64 : Int) ≤ (l'.length : Int) := by omega
   have hc64 : 64 ≤ kc := by omega
   have hc64i : (64 : Int) ≤ (kc : Int) := by omega
   obtain ⟨t, ht⟩ : ∃ t, mixM ⟨sa, sb, sc, sd, se, sf, sg, sh⟩ (l'.take 64) = t := ⟨_, rfl⟩
   have HT := Lib.hid ht
   clear ht
   obtain ⟨na, nb, nc, nd, ne, nf, ng, nh⟩ := t
   have hmix : Hid (∀ wz : World, Below wr.heap.size wr wz → Calls Tryz.prog 94 #[.agg #[.int .u32 sa, .int .u32 sb, .int .u32 sc, .int .u32 sd, .int .u32 se, .int .u32 sf, .int .u32 sg, .int .u32 sh], .slice (some ⟨g, o, none⟩) 64 kc] wz fun e w' => e = .returned (.agg #[.int .u32 na, .int .u32 nb, .int .u32 nc, .int .u32 nd, .int .u32 ne, .int .u32 nf, .int .u32 ng, .int .u32 nh]) ∧ Below wz.heap.size wz w') := Lib.hid (fun wz hb => by
    have h9 := mix_any (l'.take 64) ⟨sa, sb, sc, sd, se, sf, sg, sh⟩ g o kc wz ⟨HBK.out.len, Nat.lt_of_lt_of_le HBK.out.lt hb.size, fun i hi => (hb.cell (p := ⟨g, o + i, none⟩) HBK.out.lt).trans (HBK.out.cell i hi)⟩ (HCW.out.below hb)
    rw [HT.out] at h9
    exact h9)
   by_cases hcap : kc = 64
   ·subst hcap
    have hl64 : l'.length = 64 := by omega
    go_wp2_with fail
    go_region_with ((go_at_call 94; refine (hmix.out _ (Below.refl _ _).drew).mono ?_; rintro e w4 ⟨rfl, hb4⟩; have hbw4 := ((Below.refl wr.heap.size wr).drew).trans hb4; have HH4 := Lib.hid (HH.out.older hbw4); have HB4 := Lib.hid (HBW.out.trans (hbw4.mono (Nat.le_trans hB HBW.out.size))); have hz4 := HH4.out.box.lt; have d0 : World.cell? w4 ⟨R, 0, none⟩ = some (.int .u32 sa) := (HH4.out).box.cell (i := 0) rfl; have d1 : World.cell? w4 ⟨R, 1, none⟩ = some (.int .u32 sb) := (HH4.out).box.cell (i := 1) rfl; have d2 : World.cell? w4 ⟨R, 2, none⟩ = some (.int .u32 sc) := (HH4.out).box.cell (i := 2) rfl; have d3 : World.cell? w4 ⟨R, 3, none⟩ = some (.int .u32 sd) := (HH4.out).box.cell (i := 3) rfl; have d4 : World.cell? w4 ⟨R, 4, none⟩ = some (.int .u32 se) := (HH4.out).box.cell (i := 4) rfl; have d5 : World.cell? w4 ⟨R, 5, none⟩ = some (.int .u32 sf) := (HH4.out).box.cell (i := 5) rfl; have d6 : World.cell? w4 ⟨R, 6, none⟩ = some (.int .u32 sg) := (HH4.out).box.cell (i := 6) rfl; have d7 : World.cell? w4 ⟨R, 7, none⟩ = some (.int .u32 sh) := (HH4.out).box.cell (i := 7) rfl; have d8 : World.cell? w4 ⟨R, 8, none⟩ = some (.slice (some ⟨g, o, none⟩) l'.length 64) := (HH4.out).box.cell (i := 8) rfl; have d9 : World.cell? w4 ⟨R, 9, none⟩ = some (.int .i64 ((n + m.length : Nat) : Int)) := (HH4.out).box.cell (i := 9) rfl; have g0 := HH4.out.box.frz 0; have g1 := HH4.out.box.frz 1; have g2 := HH4.out.box.frz 2; have g3 := HH4.out.box.frz 3; have g4 := HH4.out.box.frz 4; have g5 := HH4.out.box.frz 5; have g6 := HH4.out.box.frz 6; have g7 := HH4.out.box.frz 7; have g8 := HH4.out.box.frz 8; have g9 := HH4.out.box.frz 9; clear hb4 hbw4))
    all_goals
      go_wp2_with fail
      have HH5 := Lib.hid (HH4.out.setS ⟨na, nb, nc, nd, ne, nf, ng, nh⟩)
      have HB5 := Lib.hid (below_setS (s' := ⟨na, nb, nc, nd, ne, nf, ng, nh⟩) HB4.out hR)
      go_roundg (gk - 64)
      case rel => exact ⟨⟨na, nb, nc, nd, ne, nf, ng, nh⟩, (.slice (some ⟨g, o, none⟩) 0 0), l'.drop 64, Lib.hid (by have := HQ.out; rw [List.length_drop]; omega), by rw [List.length_drop]; omega, HH5.out.set8 (own_rest0 HH5.out.own (by omega)), Lib.hid ((runL_step hge HT.out).trans HRUN.out), HB5.out.setCell (p := ⟨R, 8, none⟩) hR _⟩
      case measure => have := HQ.out; omega
   ·have hcapi : (64 : Int) < (kc : Int) := by omega
    have hcapn : 64 < kc := by omega
    go_wp2_with fail
    go_region_with ((go_at_call 94; refine (hmix.out _ (Below.refl _ _).drew).mono ?_; rintro e w4 ⟨rfl, hb4⟩; have hbw4 := ((Below.refl wr.heap.size wr).drew).trans hb4; have HH4 := Lib.hid (HH.out.older hbw4); have HB4 := Lib.hid (HBW.out.trans (hbw4.mono (Nat.le_trans hB HBW.out.size))); have hz4 := HH4.out.box.lt; have d0 : World.cell? w4 ⟨R, 0, none⟩ = some (.int .u32 sa) := (HH4.out).box.cell (i := 0) rfl; have d1 : World.cell? w4 ⟨R, 1, none⟩ = some (.int .u32 sb) := (HH4.out).box.cell (i := 1) rfl; have d2 : World.cell? w4 ⟨R, 2, none⟩ = some (.int .u32 sc) := (HH4.out).box.cell (i := 2) rfl; have d3 : World.cell? w4 ⟨R, 3, none⟩ = some (.int .u32 sd) := (HH4.out).box.cell (i := 3) rfl; have d4 : World.cell? w4 ⟨R, 4, none⟩ = some (.int .u32 se) := (HH4.out).box.cell (i := 4) rfl; have d5 : World.cell? w4 ⟨R, 5, none⟩ = some (.int .u32 sf) := (HH4.out).box.cell (i := 5) rfl; have d6 : World.cell? w4 ⟨R, 6, none⟩ = some (.int .u32 sg) := (HH4.out).box.cell (i := 6) rfl; have d7 : World.cell? w4 ⟨R, 7, none⟩ = some (.int .u32 sh) := (HH4.out).box.cell (i := 7) rfl; have d8 : World.cell? w4 ⟨R, 8, none⟩ = some (.slice (some ⟨g, o, none⟩) l'.length kc) := (HH4.out).box.cell (i := 8) rfl; have d9 : World.cell? w4 ⟨R, 9, none⟩ = some (.int .i64 ((n + m.length : Nat) : Int)) := (HH4.out).box.cell (i := 9) rfl; have g0 := HH4.out.box.frz 0; have g1 := HH4.out.box.frz 1; have g2 := HH4.out.box.frz 2; have g3 := HH4.out.box.frz 3; have g4 := HH4.out.box.frz 4; have g5 := HH4.out.box.frz 5; have g6 := HH4.out.box.frz 6; have g7 := HH4.out.box.frz 7; have g8 := HH4.out.box.frz 8; have g9 := HH4.out.box.frz 9; clear hb4 hbw4))
    all_goals
      go_wp2_with fail
      have HH5 := Lib.hid (HH4.out.setS ⟨na, nb, nc, nd, ne, nf, ng, nh⟩)
      have HB5 := Lib.hid (below_setS (s' := ⟨na, nb, nc, nd, ne, nf, ng, nh⟩) HB4.out hR)
      go_roundg (gk - 64)
      case rel => exact ⟨⟨na, nb, nc, nd, ne, nf, ng, nh⟩, (.slice (some ⟨g, o + 64, none⟩) (l'.length - 64) (kc - 64)), l'.drop 64, Lib.hid (by have := HQ.out; rw [List.length_drop]; omega), by rw [List.length_drop]; omega, HH5.out.set8 (own_rest HH5.out.own hge (by omega)), Lib.hid ((runL_step hge HT.out).trans HRUN.out), HB5.out.setCell (p := ⟨R, 8, none⟩) hR _⟩
      case measure => have := HQ.out; omega
  ·have hgei : ¬ (64 : Int) ≤ (l'.length : Int) := by omega
   go_wp2_with fail
   go_end0
   have e := HRUN.out
   rw [runL_end hge] at e
   have hfin : HashAt wr B R (runL mixM ⟨sa0, sb0, sc0, sd0, se0, sf0, sg0, sh0⟩ (l ++ m)).1 (.slice ka l'.length kc) (runL mixM ⟨sa0, sb0, sc0, sd0, se0, sf0, sg0, sh0⟩ (l ++ m)).2 (n + m.length) := by rw [← e]; exact HH.out
   first
    | exact ⟨rfl, _, hfin, HBW.out⟩
    | exact ⟨rfl, ⟨_, hfin⟩, HBW.out⟩
    | exact ⟨rfl, HBW.out, _, hfin⟩
end Dg
end Go.Proofs.YtpkhbhdidkkebaaGreatDoor
end

