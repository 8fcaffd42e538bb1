/- Contracts: the keyring's Signing, Rotate. Conditions: at most 98 keys, texts of at most 2^31 bytes. -/
import Derived.Test.YtbpbopjlcidefaaDoorKeyH
namespace Go.Proofs.YtbpbopjlcidefaaDoor
open Go.RowKit Pl Ad
attribute [local go_sem] ba_get ba_append ba_extract_end ba_extract_zero ba_extract
set_option maxRecDepth 100000
set_option maxHeartbeats 4000000
set_option linter.unusedVariables false
set_option linter.unusedSimpArgs false
namespace Kr
theorem Bx.setO {w : World} {R T q i : Nat} {cs : Array Value} {u : Value} (h : Bx w R T cs) (hne : ¬ R = q) : Bx (w.setCell ⟨q, i, none⟩ u) R T cs := h.touch (touch_set1 w q i u) hne
theorem own_setB {w : World} {B e size n q T i : Nat} {u v : Value} {xs : List Value} {cs : Array Value} (h : OwnWin w B e size u n xs) (hb : Bx w q T cs) (hne : e ≠ T) : OwnWin (w.setCell ⟨q, i, none⟩ v) B e size u n xs :=
  h.touch (touch_set1 w q i v) (fun k hk hq => hb.neOwn h hne k hk hq)
@[reducible] def key0 : Value := .agg #[.string ⟨#[]⟩, .slice none 0 0, .int .i64 0, .int .i64 0]
theorem sign_none (B R : Nat) (t n : Int) (V : Nat → Value) (E : Nat → List Ent) (w : World) (h : RingAt w B R V E) (hl : (tlK E t).length ≤ 1000000) (hs : signI (keysOf E t) n = none) :
    Calls Tryd.prog 11 #[ptrK R, .int .i64 t, .int .i64 n] w fun e w' => e = .returned (.tuple #[key0, .iface 65 (.int .i64 16)]) ∧ Below w.heap.size w w' := by
  have hb0 := (Below.refl w.heap.size w).alloc (Nat.le_refl _) (.cells #[.string ⟨#[]⟩, .slice none 0 0, .int .i64 0, .int .i64 0] 32)
  have HR := Lib.hid (h.older hb0)
  have HB := Lib.hid hb0
  have HX := Lib.hid (Bx.new w 32 #[.string ⟨#[]⟩, .slice none 0 0, .int .i64 0, .int .i64 0])
  have HP := Lib.hid (show ptrP (tlK E t) (pickE (tlK E t) n (tlK E t).length) = .pointer none by
    rw [pickE_keys]; show ptrP (tlK E t) (signI (keysOf E t) n) = _; rw [hs]; rfl)
  clear h hb0 hs
  go_enter Tryd.func11, Tryd.ntmps11
  go_wp2_with (go_at_call 26; refine (signing_any B R t n V E _ HR.out hl).mono ?_; rw [HP.out]; rintro e w' ⟨rfl, q, rfl⟩)
  refine bodyPost_ret (v := .tuple #[key0, .iface 65 (.int .i64 16)]) (by simp [results, Tryd.results11, go_sem]) rfl ⟨rfl, ?_⟩
  exact ((((below_drewN HB.out q).setCell (p := ⟨w.heap.size, 0, none⟩) (Nat.le_refl _) _).setCell (p := ⟨w.heap.size, 1, none⟩) (Nat.le_refl _) _).setCell (p := ⟨w.heap.size, 2, none⟩) (Nat.le_refl _) _).setCell (p := ⟨w.heap.size, 3, none⟩) (Nat.le_refl _) _
theorem sign_some (B R : Nat) (t n : Int) (V : Nat → Value) (E : Nat → List Ent) (w : World) (h : RingAt w B R V E) (hl : (tlK E t).length ≤ 1000000) (j : Nat) (x : Ent) (hs : signI (keysOf E t) n = some j) (hx : (tlK E t)[j]? = some x) (hsl : x.key.sec.length ≤ 1000000) :
    Calls Tryd.prog 11 #[ptrK R, .int .i64 t, .int .i64 n] w fun e w' => ∃ ua uc, e = .returned (.tuple #[keyV x.key.id (.slice ua x.key.sec.length uc) x.key.frm x.key.til, .nilIface]) ∧ OwnWin w' w.heap.size 5 1 (.slice ua x.key.sec.length uc) x.key.sec.length (bvals x.key.sec) ∧ Below w.heap.size w w' := by
  have hb0 := (Below.refl w.heap.size w).alloc (Nat.le_refl _) (.cells #[.string ⟨#[]⟩, .slice none 0 0, .int .i64 0, .int .i64 0] 32)
  have HR := Lib.hid (h.older hb0)
  have HB := Lib.hid hb0
  have HX := Lib.hid (Bx.new w 32 #[.string ⟨#[]⟩, .slice none 0 0, .int .i64 0, .int .i64 0])
  have HP := Lib.hid (show ptrP (tlK E t) (pickE (tlK E t) n (tlK E t).length) = ptrK x.blk by
    rw [pickE_keys]; show ptrP (tlK E t) (signI (keysOf E t) n) = _; rw [hs]; exact ptrP_at hx)
  have hxat := (h.older hb0).found (t := t) (List.mem_of_getElem? hx)
  have HE := Lib.hid hxat
  obtain ⟨⟨c0, c1, c2, c3, c4⟩, _, hz⟩ := hxat.facts
  obtain ⟨xa, xc, hsv, _⟩ := hxat.sec.form
  have HSV := Lib.hid hsv
  rw [hsv] at c1
  clear h hb0 hs hx hxat hsv
  go_enter Tryd.func11, Tryd.ntmps11
  go_wp2_with (go_at_call 26; refine (signing_any B R t n V E _ HR.out hl).mono ?_; rw [HP.out]; rintro e w' ⟨rfl, q, rfl⟩)
  have hb2 : Below (w.alloc (.cells #[.string ⟨#[]⟩, .slice none 0 0, .int .i64 0, .int .i64 0] 32)).heap.size (w.alloc (.cells #[.string ⟨#[]⟩, .slice none 0 0, .int .i64 0, .int .i64 0] 32)) (((w.alloc (.cells #[.string ⟨#[]⟩, .slice none 0 0, .int .i64 0, .int .i64 0] 32)).drewN q).alloc (.cells #[.string ⟨x.key.id.toArray⟩, .slice xa x.key.sec.length xc, .int .i64 x.key.frm, .int .i64 x.key.til] 32)) := (below_drewN (Below.refl (w.alloc (.cells #[.string ⟨#[]⟩, .slice none 0 0, .int .i64 0, .int .i64 0] 32)).heap.size (w.alloc (.cells #[.string ⟨#[]⟩, .slice none 0 0, .int .i64 0, .int .i64 0] 32))) q).alloc (by simp) _
  have HOC := Lib.hid (show OwnWin _ B 5 1 (.slice xa x.key.sec.length xc) x.key.sec.length (bvals x.key.sec) from HSV.out ▸ HE.out.sec.older hb2)
  have HXR := Lib.hid (HX.out.older hb2)
  have hxn := Bx.new ((w.alloc (.cells #[.string ⟨#[]⟩, .slice none 0 0, .int .i64 0, .int .i64 0] 32)).drewN q) 32 #[.string ⟨x.key.id.toArray⟩, .slice xa x.key.sec.length xc, .int .i64 x.key.frm, .int .i64 x.key.til]
  rw [show ((w.alloc (.cells #[.string ⟨#[]⟩, .slice none 0 0, .int .i64 0, .int .i64 0] 32)).drewN q).heap.size = w.heap.size + 1 by simp] at hxn
  have HXN := Lib.hid hxn
  have HB2 := Lib.hid (HB.out.trans (hb2.mono HB.out.size))
  clear hb2 hxn c0 c1 c2 c3 c4 hz
  refine (cloneB_any (.slice xa x.key.sec.length xc) x.key.sec _ (SrcAt.of HOC.out) hsl).mono ?_
  rintro e w3 ⟨u, rfl, hu, hb3⟩
  obtain ⟨ua, uc, rfl, _⟩ := hu.form
  have HXR3 := Lib.hid (HXR.out.older hb3)
  have HXN3 := Lib.hid (HXN.out.older hb3)
  have HB3 := Lib.hid (HB2.out.trans (hb3.mono HB2.out.size))
  have HU := Lib.hid hu
  have r0 := HXR3.out.cell (i := 0) rfl
  have r1 := HXR3.out.cell (i := 1) rfl
  have r2 := HXR3.out.cell (i := 2) rfl
  have r3 := HXR3.out.cell (i := 3) rfl
  have q0 := HXR3.out.frz 0
  have q1 := HXR3.out.frz 1
  have q2 := HXR3.out.frz 2
  have q3 := HXR3.out.frz 3
  have n0 := HXN3.out.cell (i := 0) rfl
  have n1 := HXN3.out.cell (i := 1) rfl
  have n2 := HXN3.out.cell (i := 2) rfl
  have n3 := HXN3.out.cell (i := 3) rfl
  have f1 := HXN3.out.frz 1
  have z1 := HXR3.out.lt
  have z2 := HXN3.out.lt
  clear hu hb3
  go_wp2
  refine bodyPost_ret (v := .tuple #[keyV x.key.id (.slice ua x.key.sec.length uc) x.key.frm x.key.til, .nilIface]) (by simp [results, Tryd.results11, go_sem, r0, r1, r2, r3, z1, z2]) rfl ⟨ua, uc, rfl, ?_, ?_⟩
  · have hu0 := HU.out.mono (C := w.heap.size) (fun k hk => by have := (HU.out.lt k hk).1; have := HB2.out.size; omega)
    have b1 := HXR3.out.setO (q := w.heap.size + 1) (i := 1) (u := .slice ua x.key.sec.length uc) (by omega)
    exact own_setB (own_setB (own_setB (own_setB (own_setB hu0 HXN3.out (by decide)) b1 (by decide)) (b1.set _ _) (by decide)) ((b1.set _ _).set _ _) (by decide)) (((b1.set _ _).set _ _).set _ _) (by decide)
  · exact ((((HB3.out.setCell (p := ⟨w.heap.size + 1, 1, none⟩) (by simp) _).setCell (p := ⟨w.heap.size, 0, none⟩) (Nat.le_refl _) _).setCell (p := ⟨w.heap.size, 1, none⟩) (Nat.le_refl _) _).setCell (p := ⟨w.heap.size, 2, none⟩) (Nat.le_refl _) _).setCell (p := ⟨w.heap.size, 3, none⟩) (Nat.le_refl _) _
end Kr
end Go.Proofs.YtbpbopjlcidefaaDoor
