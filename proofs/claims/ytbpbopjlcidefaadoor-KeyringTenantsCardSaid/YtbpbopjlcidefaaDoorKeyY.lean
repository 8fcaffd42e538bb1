/- Contracts: what the laws over the keyring share: awake, is. Conditions: at most 98 keys. -/
import Derived.Test.YtbpbopjlcidefaaDoorKeyX
namespace Go.Proofs.YtbpbopjlcidefaaDoor
open Go.RowKit Pl Ad
attribute [local go_sem] ba_get ba_append ba_extract_end ba_extract_zero ba_extract
set_option maxRecDepth 100000
set_option maxHeartbeats 1000000
set_option linter.unusedVariables false
set_option linter.unusedSimpArgs false
namespace Kr
theorem validE_keys (l : List Ent) (id : Bs) (n : Int) : validE l id n = validL (l.map Ent.key) id n := by
  unfold validE validL findE
  rw [List.find?_map]
  show _ = match (l.find? fun e => e.key.id == id).map Ent.key with | none => false | some k => k.at n
  cases l.find? fun e => e.key.id == id <;> rfl
theorem bytesAt_src {w : World} {g c : Nat} {l : Bs} (h : A1.BytesAt w g l) : SrcAt w (.slice (some ⟨g, 0, none⟩) l.length c) l.length (bvals l) := by
  refine .inr ⟨_, _, rfl, fun j x hx => ?_⟩
  obtain ⟨hj, hx⟩ := List.getElem?_eq_some_iff.1 hx
  rw [bvals_len] at hj
  rw [Addr.add_lit, Nat.zero_add, h.cell j hj, ← hx]
  simp [bvals]
def kAw : KeyM := ⟨[107, 49], secN 16, 0, 100, 0⟩
theorem addC_aw : addC 1 [] kAw = 0 := by decide
theorem one_key {l : List Ent} {k : KeyM} (h : l.map Ent.key = [k]) : ∃ x, l = [x] ∧ x.key = k := by
  match l, h with
  | [x], h => exact ⟨x, rfl, by simpa using h⟩
theorem aw_keys {E4 : Nat → List Ent} {k : List KeyM} (h : KStep (fun _ => []) E4 1 (addL 1 (keysOf (fun _ => []) 1) ⟨[107, 49], secN 16, 0, 100, 0⟩)) (h2 : addL 1 (keysOf (fun _ => []) 1) ⟨[107, 49], secN 16, 0, 100, 0⟩ = k) : keysOf E4 1 = k := by
  have := h 1
  rw [if_pos rfl, h2] at this
  exact this
theorem awake50_any (w : World) : Calls Tryd.prog 6 #[] w fun e w' => e = .returned (.bool true) ∧ Below w.heap.size w w' := by
  have hr := ringAt_new w w.heap.size (Nat.le_refl _)
  have hb1 := (Below.refl w.heap.size w).alloc (Nat.le_refl _) (.cells ring0 64)
  have HR := Lib.hid hr
  have HB := Lib.hid hb1
  have hz := hb1.size
  have hs16 : Hid (∀ w, Calls Tryd.prog 9 #[.int .u8 16] w fun e w' => e = .returned (.string ⟨(secN 16).toArray⟩) ∧ Below w.heap.size w w') := Lib.hid (fun w => secret_any 16 w (by decide))
  have HC := Lib.hid (show errC (addC 1 (keysOf (fun _ => []) 1) ⟨[107, 49], secN 16, 0, 100, 0⟩) = .nilIface from errC_ok addC_aw)
  have HA1 := Lib.hid (show addL 1 (keysOf (fun _ => []) 1) ⟨[107, 49], secN 16, 0, 100, 0⟩ = [newK kAw] from if_pos addC_aw)
  clear hr hb1
  go_enter Tryd.func6, Tryd.ntmps6
  go_wp2_with (go_at_call 7; refine (keyNew_any _).mono ?_; rintro e w1 ⟨rfl, rfl⟩)
  go_wp2_with (first
    | (go_at_call 9; refine (hs16.out _).mono ?_; rintro e w2 ⟨rfl, hb2⟩; have hcv := A1.conv_bytes w2 (secN 16); have hb3 := hb2.trans ((A1.bworld_below w2 (secN 16)).mono hb2.size); have HR3 := Lib.hid (HR.out.older hb3); have HB3 := Lib.hid (HB.out.trans (hb3.mono hz)); have HS3 := Lib.hid (bytesAt_src (c := A1.bcap w2 (secN 16)) (A1.bytesAt_new w2 (secN 16))); clear hb2 hb3)
    | (go_at_call 8; refine (add_any w.heap.size w.heap.size 1 [107, 49] (secN 16) 0 100 (some ⟨w2.heap.size, 0, none⟩) (A1.bcap w2 (secN 16)) (fun _ => .slice none 0 0) (fun _ => []) _ HR3.out HB3.out.size (by decide) (by decide) HS3.out).mono ?_; rw [HC.out]; rintro e w4 ⟨V4, E4, rfl, hd4, hst4, _⟩; have HD4 := Lib.hid hd4; have HK4 := Lib.hid (aw_keys hst4 HA1.out); clear hd4 hst4))
  obtain ⟨x, hx, hxk⟩ := one_key HK4.out
  have HX := Lib.hid hx
  have HXK := Lib.hid hxk
  have HSG := Lib.hid (show signI (keysOf E4 1) 50 = some 0 by rw [HK4.out]; decide)
  have HV1 := Lib.hid (show validE (tlK E4 1) [107, 49] 99 = true by rw [validE_keys]; show validL (keysOf E4 1) _ _ = _; rw [HK4.out]; decide)
  have HV2 := Lib.hid (show validE (tlK E4 1) [107, 49] 100 = false by rw [validE_keys]; show validL (keysOf E4 1) _ _ = _; rw [HK4.out]; decide)
  have HLN := Lib.hid (show (tlK E4 1).length = 1 by rw [hx]; rfl)
  have HB4 := Lib.hid (HB3.out.trans ((HD4.out.goes.touch.below (B := w.heap.size) HB3.out.size (fun i hi => HR3.out.ge hi))))
  clear hx
  obtain ⟨blk, sv, key⟩ := x
  simp only at hxk
  subst hxk
  have HSGN : Hid (∀ w', RingAt w' w.heap.size w.heap.size V4 E4 → Calls Tryd.prog 11 #[ptrK w.heap.size, .int .i64 1, .int .i64 50] w' fun e w2 => ∃ ua uc, e = .returned (.tuple #[keyV [107, 49] (.slice ua 16 uc) 0 100, .nilIface]) ∧ Below w'.heap.size w' w2) := Lib.hid (fun w' hr => by
    refine (sign_some w.heap.size w.heap.size 1 50 V4 E4 w' hr (by rw [HLN.out]; decide) 0 ⟨blk, sv, newK kAw⟩ HSG.out (by rw [HX.out]; rfl) (by show (secN 16).length ≤ 1000000; decide)).mono ?_
    rintro e w2 ⟨ua, uc, rfl, _, hb⟩
    exact ⟨ua, uc, rfl, hb⟩)
  go_wp2_with (first
    | (go_at_call 11; refine (HSGN.out _ HD4.out.ring).mono ?_; rintro e w5 ⟨ua, uc, rfl, hb5⟩; have HR5 := Lib.hid (HD4.out.ring.older (hb5.alloc hb5.size (.cells #[.string ⟨#[107, 49]⟩, .slice ua 16 uc, .int .i64 0, .int .i64 100] 32))); have HB5 := Lib.hid (HB4.out.trans (hb5.mono HB4.out.size)); have hz5 := HB5.out.size; clear hb5)
    | (go_at_call 12; refine (valid_any w.heap.size w.heap.size 1 _ [107, 49] V4 E4 _ HR5.out (by rw [HLN.out]; decide)).mono ?_; (first | rw [HV1.out] | rw [HV2.out]); rintro e w' ⟨rfl, rfl⟩))
  go_ret
  exact ⟨rfl, HB5.out.alloc hz5 _⟩
end Kr
end Go.Proofs.YtbpbopjlcidefaaDoor
