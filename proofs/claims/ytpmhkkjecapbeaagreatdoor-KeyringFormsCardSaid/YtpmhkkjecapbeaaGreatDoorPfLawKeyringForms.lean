/- PROVED: KeyringForms returns true for every input and leaves its arguments as they were. No condition beyond the statement's own (the listed variables read as the program's text lays them, which the card ties). -/
import Derived.Deep.RegionHeld3
import Derived.OrdersHeld
import Derived.Deep.LoopGhost
import Derived.Test.YtpmhkkjecapbeaaGreatDoorPfJ
import Derived.Test.YtpmhkkjecapbeaaGreatDoorPfL
import Derived.Test.YtpmhkkjecapbeaaGreatDoorPfN
import Derived.Test.YtpmhkkjecapbeaaGreatDoorPfQ
import Derived.Test.YtpmhkkjecapbeaaGreatDoorPfR
import Derived.Test.YtpmhkkjecapbeaaGreatDoorPfT
import Derived.Test.YtpmhkkjecapbeaaGreatDoorPfV
import Derived.Test.YtpmhkkjecapbeaaGreatDoorPfX
import Derived.Test.YtpmhkkjecapbeaaGreatDoorPfZ
import Derived.Test.YtpmhkkjecapbeaaGreatDoorPfa
namespace Go.Proofs.YtpmhkkjecapbeaaGreatDoor.lawKeyringForms
open Go.ChangeShapes Go.WideShapes Go.ChangeAt Go.RowKit Pl Ad
open Go.ChangeMaps (open_string shut_string)
attribute [local go_sem] ba_get ba_append ba_extract_end ba_extract_zero ba_extract conv_one
set_option maxRecDepth 100000
set_option maxHeartbeats 4000000
set_option linter.unusedVariables false
set_option linter.unusedSimpArgs false
open Sg Dg Kr A1
attribute [local go_sem] guard_pa eql_pa
attribute [-go_sem] run_eql_struct run_eqGuard_agg
/-! ### a nil ring -/
theorem nil_of (t : Int) (w : World) : Calls Tryz.prog 58 #[.pointer none, .int .i64 t] w fun e w' => e = .returned (.slice none 0 0) ∧ w = w' := by
  go_enter Tryz.func58, Tryz.ntmps58
  go_wp2
  go_ret
  exact ⟨rfl, rfl⟩
theorem nil_find (t : Int) (id : Bs) (w : World) : Calls Tryz.prog 54 #[.pointer none, .int .i64 t, .string ⟨id.toArray⟩] w fun e w' => e = .returned (.pointer none) ∧ w = w' := by
  go_enter Tryz.func54, Tryz.ntmps54
  go_wp2_with (go_at_call 58; refine (nil_of t _).mono ?_; rintro e w' ⟨rfl, rfl⟩)
  go_loopg [13] 0 (fun gq iv wr => wr = w ∧ iv = .int .i64 0)
  case atStart => exact ⟨rfl, rfl⟩
  case round =>
    obtain ⟨rfl, rfl⟩ := hrel
    go_wp2
    go_ret
    exact ⟨rfl, rfl⟩
theorem nil_valid (t n : Int) (id : Bs) (w : World) : Calls Tryz.prog 23 #[.pointer none, .int .i64 t, .string ⟨id.toArray⟩, .int .i64 n] w fun e w' => e = .returned (.bool false) ∧ w = w' := by
  go_enter Tryz.func23, Tryz.ntmps23
  go_wp2_with (go_at_call 54; refine (nil_find t id _).mono ?_; rintro e w' ⟨rfl, rfl⟩)
  go_ret
  exact ⟨rfl, rfl⟩
theorem nil_revoke (t n : Int) (id : Bs) (w : World) : Calls Tryz.prog 17 #[.pointer none, .int .i64 t, .string ⟨id.toArray⟩, .int .i64 n] w fun e w' => e = .returned (errV 3) ∧ w = w' := by
  go_enter Tryz.func17, Tryz.ntmps17
  go_wp2_with (go_at_call 54; refine (nil_find t id _).mono ?_; rintro e w' ⟨rfl, rfl⟩)
  go_ret
  exact ⟨rfl, rfl⟩
theorem nil_add (t : Int) (w : World) : Calls Tryz.prog 42 #[.pointer none, .int .i64 t, .agg #[.string ⟨#[]⟩, .slice none 0 0, .int .i64 0, .int .i64 0]] w fun e w' => e = .returned (errV 3) ∧ Below w.heap.size w w' := by
  go_enter Tryz.func42, Tryz.ntmps42
  go_wp2
  go_ret
  exact ⟨rfl, (Below.refl _ _).alloc (Nat.le_refl _) _⟩
theorem nil_rotate (t n : Int) (w : World) : Calls Tryz.prog 20 #[.pointer none, .int .i64 t, .int .i64 n, .int .i64 1, .int .i64 1, .slice none 0 0] w fun e w' => e = .returned (.tuple #[.string ⟨#[]⟩, errV 3]) ∧ w = w' := by
  go_enter Tryz.func20, Tryz.ntmps20
  go_wp2
  go_ret2
  exact ⟨rfl, rfl⟩
theorem nil_signing (t n : Int) (w : World) : Calls Tryz.prog 47 #[.pointer none, .int .i64 t, .int .i64 n] w fun e w' => e = .returned (.tuple #[key0, errV 3]) ∧ Below w.heap.size w w' := by
  go_enter Tryz.func47, Tryz.ntmps47
  go_wp2
  refine bodyPost_ret (v := .tuple #[key0, errV 3]) (by simp [results, Tryz.results47, go_sem]) rfl ⟨rfl, ?_⟩
  exact (Below.refl _ _).alloc (Nat.le_refl _) _
theorem nil_verify (t n : Int) (w : World) : Calls Tryz.prog 24 #[.pointer none, .int .i64 t, (.agg #[.string ⟨#[]⟩, .string ⟨#[]⟩, .string ⟨#[]⟩, .bool false]), .int .i64 n] w fun e w' => e = .returned (.tuple #[(.agg #[.string ⟨#[]⟩, .string ⟨#[]⟩, .string ⟨#[]⟩, .bool false]), errV 3]) ∧ Below w.heap.size w w' := by
  go_enter Tryz.func24, Tryz.ntmps24
  go_wp2
  refine bodyPost_ret (v := .tuple #[(.agg #[.string ⟨#[]⟩, .string ⟨#[]⟩, .string ⟨#[]⟩, .bool false]), errV 3]) (by simp [results, Tryz.results24, go_sem]) rfl ⟨rfl, ?_⟩
  exact ((Below.refl _ _).alloc (Nat.le_refl _) _).alloc (by simp) _
theorem nil_ids (t : Int) (w : World) : Calls Tryz.prog 21 #[.pointer none, .int .i64 t] w fun e w' => e = .returned (.slice none 0 0) ∧ Below w.heap.size w w' := by
  go_enter Tryz.func21, Tryz.ntmps21
  go_wp2_with (go_at_call 58; refine (nil_of t _).mono ?_; rintro e w' ⟨rfl, rfl⟩)
  go_loopg [5, 12] 0 (fun gq vv iv wr => wr = w ∧ vv = .slice none 0 0 ∧ iv = .int .i64 0)
  case atStart => exact ⟨rfl, rfl, rfl⟩
  case round =>
    obtain ⟨rfl, rfl, rfl⟩ := hrel
    go_wp2_with (go_at_call 59; refine (A1.sort_any wr.heap.size (.slice none 0 0) [] _ (OwnWin.nil _ _ _ _) (by decide)).mono ?_; rintro e w2 ⟨rfl, hs2, ht2⟩; have HT2 := Lib.hid (ht2.below (Nat.le_refl _) (fun q hq => by simp [Value.ownBlock] at hq)); clear hs2 ht2)
    go_ret
    exact ⟨rfl, HT2.out⟩
theorem walk (t now : Int) (id : Bs) (w : World) (hg : Sg.SgnAt w) (z2 : id.length ≤ 140737488351232) :
    Calls Tryz.prog 12 #[.int .i64 t, .int .i64 now, .string ⟨id.toArray⟩] w fun e w' => e = .returned (.bool true) ∧ Below w.heap.size w w' := by
  have HG := Lib.hid hg
  clear hg
  go_enter Tryz.func12, Tryz.ntmps12
  go_wp2_with fail
  refine (awake50_any _).mono ?_
  rintro e w1 ⟨rfl, hb1⟩
  have HB1 := Lib.hid hb1
  clear hb1
  by_cases hs : id.length ≤ 1000
  · have hsi : ¬ (1000 : Int) < (id.length : Int) := by omega
    go_wp2_with fail
    refine (nil_signing t now _).mono ?_
    rintro e w2 ⟨rfl, hb2⟩
    have HB2 := Lib.hid ((HB1.out.trans (hb2.mono HB1.out.size)).alloc (by have := HB1.out.size; have := hb2.size; omega) (.cells #[.string ⟨#[]⟩, .slice none 0 0, .int .i64 0, .int .i64 0] 95))
    clear hb2
    go_wp2_with fail
    refine (nil_verify t now _).mono ?_
    rintro e w3 ⟨rfl, hb3⟩
    have HB3 := Lib.hid ((HB2.out.trans (hb3.mono HB2.out.size)).alloc (by have := HB2.out.size; have := hb3.size; omega) (.cells #[.string ⟨#[]⟩, .string ⟨#[]⟩, .string ⟨#[]⟩, .bool false] 27))
    clear hb3
    go_wp2_with fail
    refine (nil_rotate t now _).mono ?_
    rintro e w4 ⟨rfl, rfl⟩
    go_wp2_with fail
    refine (nil_add t _).mono ?_
    rintro e w4 ⟨rfl, hb4⟩
    have HB4 := Lib.hid (HB3.out.trans (hb4.mono HB3.out.size))
    clear hb4
    go_wp2_with fail
    refine (nil_revoke t now id _).mono ?_
    rintro e w5 ⟨rfl, rfl⟩
    have HBL := Lib.hid (HB4.out.alloc HB4.out.size (.cells #[errV 3, errV 3, errV 3, errV 3, errV 3] 29))
    have HXL := Lib.hid (Bx.new w4 29 #[errV 3, errV 3, errV 3, errV 3, errV 3])
    go_wp2_with fail
    obtain ⟨wl, hwl⟩ : ∃ z, w4.alloc (.cells #[errV 3, errV 3, errV 3, errV 3, errV 3] 29) = z := ⟨_, rfl⟩
    rw [hwl] at HBL HXL ⊢
    clear hwl
    go_loopg [65] 5 (fun gq iv wr => ∃ j : Nat, j ≤ 5 ∧ Hid (5 ≤ gq + j) ∧ iv = .int .i64 (j : Int) ∧ wr = wl)
    case atStart => exact ⟨0, Nat.zero_le _, Lib.hid (by omega), rfl, rfl⟩
    case round =>
      obtain ⟨j, hj, HQ, rfl, rfl⟩ := hrel
      by_cases hlt : j < 5
      · have hji : (j : Int) < 5 := by omega
        have hc : wr.cell? ⟨w4.heap.size, j, none⟩ = some (errV 3) := HXL.out.cell (by rcases (show j = 0 ∨ j = 1 ∨ j = 2 ∨ j = 3 ∨ j = 4 by omega) with rfl | rfl | rfl | rfl | rfl <;> rfl)
        have hz := HXL.out.lt
        go_wp2_with (go_at_call 18; refine (is_err 3 _ (by decide)).mono ?_; rintro e w' ⟨rfl, rfl⟩)
        go_roundg (gk - 1)
        case rel => exact ⟨j + 1, by omega, Lib.hid (by have := HQ.out; omega), by go_num, rfl⟩
        case measure => have := HQ.out; omega
      · obtain rfl : j = 5 := by omega
        go_wp2_with fail
        refine (keyNew_any _).mono ?_
        rintro e w6 ⟨rfl, rfl⟩
        have HR := Lib.hid (ringAt_new wr w.heap.size HBL.out.size)
        have HB6 := Lib.hid (HBL.out.alloc HBL.out.size (.cells ring0 120))
        obtain ⟨R, hR⟩ : ∃ z, wr.heap.size = z := ⟨_, rfl⟩
        obtain ⟨w6, hw6⟩ : ∃ z, wr.alloc (.cells ring0 120) = z := ⟨_, rfl⟩
        rw [hw6] at HR HB6 ⊢
        rw [hR] at HR ⊢
        clear hw6 hR
        have htl : ∀ s : Int, tlK (fun _ => ([] : List Ent)) s = [] := fun s => by unfold tlK; split <;> rfl
        have hkl : ∀ s : Int, keysOf (fun _ => ([] : List Ent)) s = [] := fun s => by unfold keysOf; rw [htl]; rfl
        go_wp2_with fail
        refine (sign_none w.heap.size R t now _ _ _ HR.out (by rw [htl]; decide) (by rw [hkl]; rfl)).mono ?_
        rintro e w7 ⟨rfl, hb7⟩
        have HB7 := Lib.hid ((HB6.out.trans (hb7.mono HB6.out.size)).alloc (by have := HB6.out.size; have := hb7.size; omega) (.cells #[.string ⟨#[]⟩, .slice none 0 0, .int .i64 0, .int .i64 0] 95))
        have HR7 := Lib.hid ((HR.out.older hb7).older ((Below.refl _ _).alloc (Nat.le_refl _) (.cells #[.string ⟨#[]⟩, .slice none 0 0, .int .i64 0, .int .i64 0] 95)))
        clear hb7
        have hrn : readS ⟨[97], [47], [], false⟩ = none := read_nohas rfl
        obtain ⟨r1, r2⟩ := ring_none (f := fun id => (findE (tlK (fun _ => ([] : List Ent)) t) id).map Ent.key) (now := now) hrn
        have HVF : Hid (∀ wz, SgnAt wz → RingAt wz w.heap.size R (fun _ => .slice none 0 0) (fun _ => []) → Calls Tryz.prog 24 #[ptrK R, .int .i64 t, .agg #[.string ⟨#[97]⟩, .string ⟨#[47]⟩, .string ⟨#[]⟩, .bool false], .int .i64 now] wz fun e w' => e = .returned (.tuple #[(.agg #[.string ⟨#[]⟩, .string ⟨#[]⟩, .string ⟨#[]⟩, .bool false]), errV 2]) ∧ Below wz.heap.size wz w') := Lib.hid (fun wz h1 h2 => by have h9 := kverify_any w.heap.size R t ⟨[97], [47], [], false⟩ now _ _ wz h1 h2 (by rw [htl]; decide) (fun e he => by rw [htl] at he; cases he) (by decide) (by decide) (by decide); rw [r1, r2] at h9; exact h9)
        clear r1 r2 hrn
        have HTL := Lib.hid htl
        have HKL := Lib.hid hkl
        clear htl hkl
        go_wp2_with fail
        refine (HVF.out _ (HG.out.below HB7.out) HR7.out).mono ?_
        rintro e w8 ⟨rfl, hb8⟩
        have HB8 := Lib.hid ((HB7.out.trans (hb8.mono HB7.out.size)).alloc (by have := HB7.out.size; have := hb8.size; omega) (.cells #[.string ⟨#[]⟩, .string ⟨#[]⟩, .string ⟨#[]⟩, .bool false] 27))
        have HR8 := Lib.hid ((HR7.out.older hb8).older ((Below.refl _ _).alloc (Nat.le_refl _) (.cells #[.string ⟨#[]⟩, .string ⟨#[]⟩, .string ⟨#[]⟩, .bool false] 27)))
        clear hb8
        go_wp2_with fail
        refine (nil_valid t now id _).mono ?_
        rintro e w' ⟨rfl, rfl⟩
        go_wp2_with fail
        refine (nil_ids t _).mono ?_
        rintro e w9 ⟨rfl, hb9⟩
        have HB9 := Lib.hid (HB8.out.trans (hb9.mono HB8.out.size))
        have HR9 := Lib.hid (HR8.out.older hb9)
        clear hb9
        go_wp2_with fail
        refine (is_err 16 _ (by decide)).mono ?_
        rintro e w' ⟨rfl, rfl⟩
        go_wp2_with fail
        refine (is_err 2 _ (by decide)).mono ?_
        rintro e w' ⟨rfl, rfl⟩
        go_wp2_with fail
        have hrv := revoke_any w.heap.size R t id now _ _ _ HR9.out (by rw [HTL.out]; decide)
        rw [HKL.out, show Kr.errC (revC [] id) = errV 3 from rfl] at hrv
        refine hrv.mono ?_
        rintro e w10 ⟨E', rfl, hd, hst⟩
        have hk2 : keysOf E' t = [] := by have h9 := hst t; rw [if_pos rfl] at h9; rw [h9]; simp [revL]
        have htl2 : tlK E' t = [] := by unfold keysOf at hk2; exact List.map_eq_nil_iff.1 hk2
        have HR10 := Lib.hid hd.ring
        have HB10 := Lib.hid (HB9.out.trans (hd.goes.below HR9.out HB9.out.size))
        have HVA : Hid (validE (tlK E' t) id now = false) := Lib.hid (by rw [htl2]; rfl)
        have HT2 := Lib.hid htl2
        clear hd hst hk2 htl2
        go_wp2_with fail
        refine (is_err 3 _ (by decide)).mono ?_
        rintro e w' ⟨rfl, rfl⟩
        go_wp2_with fail
        have hvd := Kr.valid_any w.heap.size R t now id _ _ _ HR10.out (by rw [HT2.out]; decide)
        rw [HVA.out] at hvd
        refine hvd.mono ?_
        rintro e w' ⟨rfl, rfl⟩
        go_wp2_with fail
        have hid2 := ids_any w.heap.size R t _ _ _ HR10.out (by rw [HT2.out]; decide)
        rw [HT2.out] at hid2
        refine hid2.mono ?_
        rintro e w11 ⟨u, rfl, hu, hb11⟩
        obtain ⟨ua, uc, rfl, _⟩ := OwnWin.form hu
        have HB11 := Lib.hid (HB10.out.trans (hb11.mono HB10.out.size))
        clear hu hb11 hvd hid2 hrv
        go_wp2_with fail
        go_ret
        exact ⟨rfl, HB11.out⟩
  · have hsi : (1000 : Int) < (id.length : Int) := by omega
    go_wp2_with fail
    refine (awake50_any _).mono ?_
    rintro e w3 ⟨rfl, hb3⟩
    have HB3 := Lib.hid (HB1.out.trans (hb3.mono HB1.out.size))
    clear hb3
    go_wp2_with fail
    go_ret
    exact ⟨rfl, HB3.out⟩

/-- What the walk gives, for every argument. -/
theorem contract (H : Type) (enc : TypeId × Value → H) (W : World) (base : Nat) (args : Array Value) (ds gs : List (DataW H)) (before : List MemPlace)
    (hval : ∀ (j : Nat) t v, Tryz.f12.params[j]? = some t → args[j]? = some v → Value.okWide Tryz.prog W .any base t v)
    (hW : DataW.Whole enc Tryz.prog Tryz.f12.params.toList Rows.keyringFormsSpec.vars false W args.toList ds gs before) (hsz : (DataW.weightsEach Tryz.prog Tryz.f12.params.toList (ds ++ gs)).all (· ≤ reachBytes) = true) (hr : Sg.SgnAt W) :
    Calls Tryz.prog 12 args W fun e W' => ∃ v, e = .returned v ∧ Rows.keyringFormsSpec.post enc Tryz.prog Tryz.f12 false true false false W args v W' := by
  have hW' := hW
  have hlt := fun p hp => hW.lt p hp
  obtain ⟨p, q, hA0, hV, rfl, hfz, hnd⟩ := hW
  have hA : DataW.TrodAll enc Tryz.prog W 0 (fun _ => true) true Tryz.f12.params.toList args.toList ds p := hA0
  have hA1 := hA
  obtain ⟨rfl, rfl⟩ := trodVars_none hV
  rw [Tryz.params12] at hA hval
  obtain ⟨v0, vs0, d0, ds0, p0, q0, hargs, rfl, rfl, h0, r0⟩ := trodAll_cons hA
  obtain ⟨v1, vs1, d1, ds1, p1, q1, rfl, rfl, rfl, h1, r1⟩ := trodAll_cons r0
  obtain ⟨v2, vs2, d2, ds2, p2, q2, rfl, rfl, rfl, h2, r2⟩ := trodAll_cons r1
  obtain ⟨rfl, rfl, rfl⟩ := trodAll_nil r2
  obtain rfl : args = #[v0, v1, v2] := by cases args; simp_all
  have fin : ∀ W', Below W.heap.size W W' → Rows.keyringFormsSpec.post enc Tryz.prog Tryz.f12 false true false false W #[v0, v1, v2] (.bool true) W' := fun W' hb => by
    simp only [List.append_nil] at hA1 hW' hlt
    exact ⟨_, _, _, [], _, [], hW', trodAll_cons_mk (shut_bool Tryz.underlying4 _) trodAll_mk0, Fr.trodAll_below (by kernel_rfl) _ (by kernel_rfl) hA1 hb hlt, rfl, hb.frame _, fun h => by cases h⟩
  clear hW' hA0 hA1 hlt
  rw [Tryz.params12, List.append_nil] at hsz
  obtain ⟨n0, rfl, rfl, rfl, wf0⟩ := open_int Tryz.underlying3 (hval 0 3 v0 rfl rfl) h0
  obtain ⟨n1, rfl, rfl, rfl, wf1⟩ := open_int Tryz.underlying3 (hval 1 3 v1 rfl rfl) h1
  obtain ⟨s2, rfl, rfl, rfl, hs2⟩ := open_string Tryz.underlying9 (hval 2 9 v2 rfl rfl) h2
  obtain ⟨⟨l2⟩⟩ := s2
  have z2 : l2.length ≤ 140737488351232 := sized_string hsz (j := 2) rfl rfl
  refine (walk n0 n1 l2 W hr z2).mono fun e W' ⟨he, hb⟩ => ?_
  subst he
  exact ⟨_, rfl, fin W' hb⟩

theorem laid_met (os : Os) : laidMet Tryz.prog Rows.keyringFormsRow.laid ((Fr.laidE Rows.keyringFormsRow.laid os).forCall (fun _ _ => 0) ⟨#[], #[.int .i64 0, .int .i64 0, .string ⟨#[]⟩], []⟩).memory :=
  laidMet_of_run' 8 (by kernel_rfl) (by kernel_rfl)
theorem reads (os : Os) {H : Type} (enc : TypeId × Value → H) : ∃ places, DataW.whole enc Tryz.prog ((Fr.laidE Rows.keyringFormsRow.laid os).forCall (fun _ _ => 0) ⟨#[], #[.int .i64 0, .int .i64 0, .string ⟨#[]⟩], []⟩).memory Tryz.f12.params.toList Rows.keyringFormsSpec.vars false (#[.int .i64 0, .int .i64 0, .string ⟨#[]⟩] : Array Value).toList 8 = some ([.lit (.int .i64 0), .lit (.int .i64 0), .lit (.string [])], [], places) :=
  ⟨[], by kernel_rfl⟩

theorem lifted (os : Os) (started : os.Started) (H : Type) (enc : TypeId × Value → H) (F : Stop.Interp) :
    ReturnsInHanded {} Tryz.checked os 12 .any ((OpenSpec.ofChange Rows.keyringFormsSpec).preRow enc Tryz.prog Tryz.f12 Rows.keyringFormsRow.domain false Rows.keyringFormsRow.laid) (((OpenSpec.ofChange Rows.keyringFormsSpec).at F).post enc Tryz.prog Tryz.f12 false true false false) := by
  obtain ⟨places, hx⟩ := reads os enc
  refine returnsInHanded_of_row (C := Tryz.checked) (s := OpenSpec.ofChange Rows.keyringFormsSpec) Fr.own started (by kernel_rfl) Tryz.func12
    (witness_row_at (enc := enc) (C := Tryz.checked) false (Fr.laidE Rows.keyringFormsRow.laid os) #[.int .i64 0, .int .i64 0, .string ⟨#[]⟩] rfl (by kernel_rfl) (by kernel_rfl) (by kernel_rfl)
      (OpenSpec.preRow_of_cond 8 hx (by kernel_rfl) (fun k hk => by cases hk) (by kernel_rfl) (laid_met os))) ?_
  intro W base args ds gs before hval hW _ hcond hsz hlaid hsh _
  exact contract H enc W base args ds gs before hval hW (by have h9 : (DataW.weightsEach Tryz.prog (Tryz.f12.params.toList ++ []) (ds ++ gs)).all (· ≤ reachBytes) = true := hsz; rw [List.append_nil] at h9; exact h9) (Fr.sgn_laid hsh hlaid (by kernel_rfl) (by repeat first | exact List.mem_cons_self .. | apply List.mem_cons_of_mem) (by repeat first | exact List.mem_cons_self .. | apply List.mem_cons_of_mem) (by repeat first | exact List.mem_cons_self .. | apply List.mem_cons_of_mem) (by repeat first | exact List.mem_cons_self .. | apply List.mem_cons_of_mem))

theorem k_0 : Rows.keyringFormsRow.wf (OpenSpec.ofChange (OpenSpec.ofChange Rows.keyringFormsSpec).bare) = true := by kernel_rfl
theorem k_1 : laidOutB Tryz.prog = true := Fr.sf_laidOut
theorem k_2 : mapsRowed Tryz.prog = true := Fr.sf_mapsRowed
theorem k_3 : Tryz.f12.params.all (Tryz.prog.readableRec ·) = true := by kernel_rfl
theorem k_4 : namedTie Tryz.prog Rows.keyringFormsRow.named (OpenSpec.ofChange Rows.keyringFormsSpec).bare.vars = true := by kernel_rfl
theorem k_5 : (Rows.keyringFormsRow.stops == []) = true := by kernel_rfl
theorem k_6 : (Tryz.prog.stops == []) = true := Fr.sf_stops
theorem k_7 : (Rows.keyringFormsRow.knobs == []) = true := by kernel_rfl
theorem k_8 : (Tryz.prog.stopKnobs == []) = true := Fr.sf_stopKnobs
theorem k_9 : (Rows.keyringFormsRow.inPlace == Tryz.prog.inPlace 12) = true := by kernel_rfl
theorem k_10 : (Rows.keyringFormsRow.unfollowed == Tryz.prog.unfollowed 12) = true := by kernel_rfl
theorem k_11 : (Rows.keyringFormsRow.recurses == Tryz.prog.recurses 12) = true := by kernel_rfl
theorem k_12 : (Rows.keyringFormsRow.named == Tryz.prog.varsNamed 12) = true := by kernel_rfl
theorem k_13 : (Rows.keyringFormsRow.maps == (Tryz.f12.params.toList ++ (OpenSpec.ofChange Rows.keyringFormsSpec).bare.plain.varTypes Tryz.prog).any (Tryz.prog.mapsRec ·)) = true := by kernel_rfl
theorem k_14 : (Rows.keyringFormsRow.ifaces == (Tryz.f12.params.toList ++ (OpenSpec.ofChange Rows.keyringFormsSpec).bare.plain.varTypes Tryz.prog).any (Tryz.prog.ifacesRec ·)) = true := by kernel_rfl
theorem k_15 : (Rows.keyringFormsRow.mapsOut == Tryz.prog.mapsAmong Tryz.f12.resultTypes.toList) = true := by kernel_rfl
theorem k_16 : (Rows.keyringFormsRow.loops == (Tryz.f12.params.toList ++ (OpenSpec.ofChange Rows.keyringFormsSpec).bare.plain.varTypes Tryz.prog).any (Tryz.prog.loopsFrom ·)) = true := by kernel_rfl
theorem k_17 : (Rows.keyringFormsRow.wideKeys == (Tryz.f12.params.toList ++ (OpenSpec.ofChange Rows.keyringFormsSpec).bare.plain.varTypes Tryz.prog ++ Tryz.f12.resultTypes.toList).any (Tryz.prog.wideKeysFrom ·)) = true := by kernel_rfl
theorem k_18 : (OpenSpec.ofChange Rows.keyringFormsSpec).bare.vars.all (Tryz.prog.varReadable ·) = true := by kernel_rfl
theorem k_19 : Tryz.f12.resultTypes.all (fun t => Tryz.prog.readableRec t && decide (t < Tryz.prog.types.size)) = true := by kernel_rfl
theorem k_20 : (Rows.keyringFormsRow.ifacesOut == Tryz.f12.resultTypes.toList.any (Tryz.prog.ifacesRec ·)) = true := by kernel_rfl
theorem k_21 : (Rows.keyringFormsRow.loopsOut == Tryz.f12.resultTypes.toList.any (Tryz.prog.loopsFrom ·)) = true := by kernel_rfl
theorem k_22 : (Rows.keyringFormsRow.plainKeys == Tryz.prog.plainKeys) = true := Fr.sf_plainKeys
theorem k_23 : Rows.keyringFormsRow.shortTexts.isNone = true := by kernel_rfl
theorem k_24 : Tryz.prog.stopsHeard = true := Fr.sf_heard
theorem k_25 : Tryz.prog.mayEnter = true := Fr.sf_mayEnter
theorem k_26 : (Rows.keyringFormsRow.lifted == Tryz.prog.liftsFinal) = true := Fr.sf_lifted
theorem k_27 : (Tryz.prog.make == some Rows.keyringFormsRow.make) = true := Fr.sf_make
theorem k_28 : (Rows.keyringFormsRow.kinds == (if Rows.keyringFormsRow.domain.isEmpty then [] else Tryz.f12.params.toList.map fun t => match Tryz.prog.underlying t with | some (.int k) => some k | _ => none)) = true := by kernel_rfl
theorem k_29 : (Rows.keyringFormsRow.pinned == Rows.keyringFormsRow.pinnedBy) = true := by kernel_rfl
theorem k_30 : (Rows.keyringFormsRow.veiled == (Tryz.f12.params.toList ++ (OpenSpec.ofChange Rows.keyringFormsSpec).bare.plain.varTypes Tryz.prog ++ Tryz.f12.resultTypes.toList).any (Tryz.prog.veiledRec ·)) = true := by kernel_rfl
theorem k_31 : Rows.keyringFormsRow.veiledFits Tryz.prog Tryz.f12.params.toList (Tryz.f12.params.toList ++ (OpenSpec.ofChange Rows.keyringFormsSpec).bare.plain.varTypes Tryz.prog ++ Tryz.f12.resultTypes.toList) = true := by kernel_rfl
theorem closed : joinedFacts Tryz.prog 12 Tryz.f12 (OpenSpec.ofChange Rows.keyringFormsSpec).bare Rows.keyringFormsRow = true := Op.andT (Op.andT (Op.andT (Op.andT (Op.andT (Op.andT (Op.andT (Op.andT (Op.andT (Op.andT (Op.andT (Op.andT (Op.andT (Op.andT (Op.andT (Op.andT (Op.andT (Op.andT (Op.andT (Op.andT (Op.andT (Op.andT (Op.andT (Op.andT (Op.andT (Op.andT (Op.andT (Op.andT (Op.andT (Op.andT (Op.andT (k_0) k_1) k_2) k_3) k_4) k_5) k_6) k_7) k_8) k_9) k_10) k_11) k_12) k_13) k_14) k_15) k_16) k_17) k_18) k_19) k_20) k_21) k_22) k_23) k_24) k_25) k_26) k_27) k_28) k_29) k_30) k_31

theorem said : Rows.KeyringFormsSaid :=
  OpenClaim.holds_of_cond 12 Tryz.f12 rfl rfl rfl rfl rfl rfl rfl ⟨rfl, rfl, rfl, rfl, rfl⟩ rfl rfl rfl rfl rfl (by kernel_rfl) Tryz.func12 closed
    (of_decide_eq_true (by kernel_rfl)) (by unfold Func.isWrapper; first | (rw [if_pos (by decide +kernel)]; kernel_rfl) | (rw [if_neg (by decide +kernel)]; exact ⟨rfl, rfl⟩))
    (fun os started H enc _ F => by rw [OpenClaim.pre_eq_preRow]; exact lifted os started H enc F)

theorem plain (b : Bool) (hb : b = Tryz.pinned.checked.prog.looks []) (f : FuncId) (fn : Func) (hf : Tryz.pinned.checked.prog.funcNamed "quayside/quaysidelaw50.KeyringForms" = some f) (hfn : Tryz.pinned.checked.prog.funcs[f]? = some fn) :
    b = Tryz.pinned.checked.prog.looks [] ∧ ∀ (j : Nat) t, fn.params[j]? = some t → Tryz.pinned.checked.prog.wantsStandIn t = false := by
  obtain rfl : f = 12 := Option.some.inj ((show Tryz.prog.funcNamed "quayside/quaysidelaw50.KeyringForms" = some 12 by kernel_rfl).symm.trans hf) |>.symm
  obtain rfl : fn = Tryz.f12 := (Option.some.inj (Tryz.func12.symm.trans hfn)).symm
  refine ⟨hb, fun j t ht => ?_⟩
  rw [Tryz.params12] at ht
  have hm : t ∈ [3, 9] := by simpa using Array.mem_of_getElem? ht
  have hall : ([3, 9].all fun u => !Tryz.prog.wantsStandIn u) = true := by kernel_rfl
  exact (show Tryz.prog.wantsStandIn t = false by simpa using List.all_eq_true.1 hall t hm)

theorem proved : Rows.KeyringFormsCardSaid :=
  Claim7.holds_tied_plain_at .later [] _ _ _ _ said (fun _ h => by cases h) (by kernel_rfl) (fun _ h => by cases h) keyringForms_row_tie rfl ⟨rfl, rfl⟩ (by kernel_rfl) rfl (plain _ (by kernel_rfl)) (by kernel_rfl)
#print axioms proved
end Go.Proofs.YtpmhkkjecapbeaaGreatDoor.lawKeyringForms
