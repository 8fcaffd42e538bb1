/- PROVED: KeyringRotates returns true for every input and leaves its arguments as they were. No condition beyond the statement's own (the listed variables read as the program's text lays them, which the card ties). -/
import Derived.Test.YtbpbopjlcidefaaDoorFrameK

namespace Go.Proofs.YtbpbopjlcidefaaDoor.lawKeyringRotates
open Go.ChangeShapes Go.WideShapes Go.ChangeAt Go.RowKit Pl Ad Kr
open Go.ChangeMaps (open_string shut_string)
attribute [local go_sem] ba_get ba_append ba_extract
set_option maxRecDepth 100000
set_option maxHeartbeats 4000000
set_option linter.unusedVariables false
set_option linter.unusedSimpArgs false

def first1 : Bs := [102, 105, 114, 115, 116]
def kOne (e : Int) : KeyM := ⟨first1, secN 16, 0, e, 0⟩
def kA (stop : Int) : KeyM := ⟨first1, secN 16, 0, stop, 1099511627777⟩
def kB (at_ life : Int) : KeyM := ⟨[107, 50], secN 17, at_, at_ + life, 1099511627777⟩
theorem clipK_in {n : Int} (h0 : 0 ≤ n) (h1 : n ≤ 1099511627776) : clipK n = n := ((clipK_iff n).2 ⟨h0, h1⟩).symm
theorem add_first {e : Int} (h0 : 1 ≤ e) (h1 : e ≤ 65536) : addC 0 [] (kOne e) = 0 := by
  refine addC_ok (by show idOk first1 = true; decide) (rngK_iff.2 ⟨by decide, by decide, by show 16 ≤ (secN 16).length; decide, by show (secN 16).length ≤ 64; decide, by show (0 : Int) = clipK 0; decide, ?_⟩) (by show ¬ e ≤ 0; omega) rfl
  exact (clipK_in (n := e) (by omega) (by omega)).symm
theorem sign_first {e n : Int} (h0 : 0 ≤ n) (h1 : n < e) (h2 : e ≤ 65536) : signI [newK (kOne e)] n = some 0 := by
  have ha : (newK (kOne e)).at n = true := by
    show (decide (0 ≤ n) && decide (n < e) && decide (n < 1099511627777)) = true
    rw [decide_eq_true h0, decide_eq_true h1, decide_eq_true (by omega)]; rfl
  exact pickI_first (l := [newK (kOne e)]) (k := 0) rfl ha rfl
theorem rot_id (e : Int) : rotId [newK (kOne e)] = [107, 50] := by
  show 107 :: Lib.decDigits 2 = _
  rw [Lib.decDigits_one (by decide)]; rfl
theorem rot_code {e n life : Int} (h0 : 0 ≤ n) (h1 : n ≤ 65536) (h2 : 1 ≤ life) (h3 : life ≤ 65536) : rotC 0 [newK (kOne e)] n life (secN 17) = 0 := by
  unfold rotC
  refine addC_ok (by show idOk (rotId _) = true; rw [rot_id]; decide) (rngK_iff.2 ⟨by decide, by decide, by show 16 ≤ (secN 17).length; decide, by show (secN 17).length ≤ 64; decide, ?_, ?_⟩) ?_ ?_
  · show clipK n = clipK (clipK n)
    rw [clipK_in h0 (by omega), clipK_in h0 (by omega)]
  · show clipK n + clipK life = clipK (clipK n + clipK life)
    rw [clipK_in h0 (by omega), clipK_in (by omega) (by omega), clipK_in (n := n + life) (by omega) (by omega)]
  · show ¬ clipK n + clipK life ≤ clipK n
    rw [clipK_in h0 (by omega), clipK_in (n := life) (by omega) (by omega)]; omega
  · show hasId [newK (kOne e)] (rotId _) = false
    rw [rot_id]; rfl
theorem rot_list {e n life ov : Int} (h0 : 0 ≤ n) (h1 : n < e) (he : e ≤ 65536) (h2 : 1 ≤ life) (h3 : life ≤ 65536) (h4 : 0 ≤ ov) (h5 : ov ≤ 65536) : rotL 0 [newK (kOne e)] n life ov (secN 17) = [kA (min e (n + ov)), kB n life] := by
  unfold rotL
  rw [if_pos (rot_code h0 (by omega) h2 h3), clipK_in h0 (by omega), sign_first h0 h1 he, clipK_in h4 (by omega)]
  unfold rotK
  rw [rot_id, clipK_in h0 (by omega), clipK_in (n := life) (by omega) (by omega)]
  rfl
theorem valid_first {stop n life s : Int} (h : s ≤ 65537) : validL [kA stop, kB n life] first1 s = (decide (0 ≤ s) && decide (s < stop)) := by
  show (decide (0 ≤ s) && decide (s < stop) && decide (s < 1099511627777)) = _
  rw [decide_eq_true (show s < 1099511627777 by omega), Bool.and_true]
theorem valid_two {stop n life s : Int} (h : s ≤ 200000) : validL [kA stop, kB n life] [107, 50] s = (decide (n ≤ s) && decide (s < n + life)) := by
  show (decide (n ≤ s) && decide (s < n + life) && decide (s < 1099511627777)) = _
  rw [decide_eq_true (show s < 1099511627777 by omega), Bool.and_true]
theorem two_keys {l : List Ent} {k k' : KeyM} (h : l.map Ent.key = [k, k']) : ∃ x y, l = [x, y] ∧ x.key = k ∧ y.key = k' := by
  match l, h with
  | [x, y], h =>
    simp only [List.map_cons, List.map_nil, List.cons.injEq, and_true] at h
    exact ⟨x, y, rfl, h.1, h.2⟩
theorem sign_two {stop n life : Int} (h0 : 0 ≤ n) (h1 : 1 ≤ life) (h2 : n ≤ 65536) : signI [kA stop, kB n life] n = if n = 0 ∧ 0 < stop then some 0 else some 1 := by
  have hb : (kB n life).at n = true := by
    show (decide (n ≤ n) && decide (n < n + life) && decide (n < 1099511627777)) = true
    rw [decide_eq_true (by omega), decide_eq_true (by omega), decide_eq_true (by omega)]; rfl
  have ha : (kA stop).at n = decide (n < stop) := by
    show (decide (0 ≤ n) && decide (n < stop) && decide (n < 1099511627777)) = _
    rw [decide_eq_true h0, decide_eq_true (show n < 1099511627777 by omega)]; simp
  by_cases hs : n < stop
  · have s1 : pickI (fun k => k.at n) betterK [kA stop, kB n life] 1 = some 0 := pickI_first (k := 0) rfl (by rw [ha, decide_eq_true hs]) rfl
    by_cases hn : n = 0
    · rw [if_pos ⟨hn, by omega⟩]
      exact pickI_no (k := 1) rfl hb s1 rfl (by subst hn; rfl)
    · rw [if_neg (fun h => hn h.1)]
      refine pickI_yes (k := 1) rfl hb s1 rfl ?_
      show (decide (0 < n) || _) = true
      rw [decide_eq_true (by omega)]; rfl
  · have s1 : pickI (fun k => k.at n) betterK [kA stop, kB n life] 1 = none := (pickI_not (k := 0) rfl (by rw [ha, decide_eq_false hs])).trans rfl
    rw [if_neg (fun h => hs (by omega))]
    exact pickI_first (k := 1) rfl hb s1
theorem two_strs (w : World) : A1.StrsV (w.alloc (.cells #[.string ⟨#[102, 105, 114, 115, 116]⟩, .string ⟨#[107, 50]⟩] 9)) (.slice (some ⟨w.heap.size, 0, none⟩) 2 2) [[102, 105, 114, 115, 116], [107, 50]] := by
  refine .inr ⟨w.heap.size, 0, 2, rfl, Nat.le_refl _, by simp, fun k x hx => ?_⟩
  have h := heap_alloc_new w (.cells #[.string ⟨#[102, 105, 114, 115, 116]⟩, .string ⟨#[107, 50]⟩] 9)
  rw [cell_of_row _ _ _ _ _ _ h]
  match k, hx with
  | 0, hx => cases hx; rfl
  | 1, hx => cases hx; rfl
theorem rot_keys {E E4 : Nat → List Ent} {t : Int} {l k : List KeyM} (h : KStep E E4 t l) (h2 : l = k) : keysOf E4 t = k := by
  have := h t
  rw [if_pos rfl, h2] at this
  exact this
theorem walk (n0 n1 n2 n3 : Int) (w : World) (m0 : 0 ≤ n0 ∧ n0 < 65536) (m1 : 0 ≤ n1 ∧ n1 < 65536) (m2 : 0 ≤ n2 ∧ n2 < 65536) (m3 : 0 ≤ n3 ∧ n3 < 65536) :
    Calls Tryd.prog 3 #[.int .u16 n0, .int .u16 n1, .int .u16 n2, .int .u16 n3] w fun e w' => e = .returned (.bool true) ∧ Below w.heap.size w w' := by
  obtain ⟨p0, q0⟩ := m0
  obtain ⟨p1, q1⟩ := m1
  obtain ⟨p2, q2⟩ := m2
  obtain ⟨p3, q3⟩ := m3
  have hs16 : Hid (∀ w, Calls Tryd.prog 9 #[.int .u8 16] w fun e w' => e = .returned (.string ⟨(secN 16).toArray⟩) ∧ Below w.heap.size w w') := Lib.hid (fun w => secret_any 16 w (by decide))
  have hs17 : Hid (∀ w, Calls Tryd.prog 9 #[.int .u8 17] w fun e w' => e = .returned (.string ⟨(secN 17).toArray⟩) ∧ Below w.heap.size w w') := Lib.hid (fun w => secret_any 17 w (by decide))
  have hm0 : 0 ≤ n1 % (n0 + 1) := Int.emod_nonneg _ (by omega)
  have hm1 : n1 % (n0 + 1) < n0 + 1 := Int.emod_lt_of_pos _ (by omega)
  obtain ⟨at_, hat⟩ : ∃ a, n1 % (n0 + 1) = a := ⟨_, rfl⟩
  have HAT := Lib.hid hat
  rw [hat] at hm0 hm1
  clear hat
  have hne : ¬ n0 + 1 = 0 := by omega
  go_enter Tryd.func3, Tryd.ntmps3
  go_wp2_with (go_at_call 6; refine (awake50_any _).mono ?_; rintro e w1 ⟨rfl, hb1⟩; have HB1 := Lib.hid hb1; clear hb1)
  refine (keyNew_any _).mono ?_
  rintro e w2 ⟨rfl, rfl⟩
  have HB2 := Lib.hid (HB1.out.alloc HB1.out.size (.cells ring0 64))
  have HR2 := Lib.hid (ringAt_new w1 w1.heap.size (Nat.le_refl _))
  have hne1 : ((n0 + 1 : Int) == 0) = false := beq_eq_false_iff_ne.2 hne
  go_wp2_with fail
  go_quiet (fail)
  obtain ⟨wA, hw9⟩ : ∃ wz, (w1.alloc (.cells ring0 64)).drewN nq = wz := ⟨_, rfl⟩
  have hbA : Below (w1.alloc (.cells ring0 64)).heap.size (w1.alloc (.cells ring0 64)) wA := by rw [← hw9]; exact below_drewN (Below.refl _ _) _
  rw [hw9]
  have HBA := Lib.hid (HB2.out.trans (hbA.mono HB2.out.size))
  have HRA := Lib.hid (HR2.out.older hbA)
  clear hw9 hbA HR2 hne hne1
  rw [HAT.out]
  have he1 : 1 ≤ n0 + 1 := by omega
  have he2 : n0 + 1 ≤ 65536 := by omega
  have HC := Lib.hid (show errC (addC 0 (keysOf (fun _ => []) 0) ⟨[102, 105, 114, 115, 116], secN 16, 0, n0 + 1, 0⟩) = .nilIface from errC_ok (add_first he1 he2))
  have HA1 := Lib.hid (show addL 0 (keysOf (fun _ => []) 0) ⟨[102, 105, 114, 115, 116], secN 16, 0, n0 + 1, 0⟩ = [newK (kOne (n0 + 1))] from if_pos (add_first he1 he2))
  have hzA := HBA.out.size
  have hz1 := HB1.out.size
  go_wp2_with fail
  go_at_call 9
  refine (hs16.out _).mono ?_
  rintro e w2 ⟨rfl, hb2⟩
  have hcv := A1.conv_bytes w2 (secN 16)
  have hb3 := hb2.trans ((A1.bworld_below w2 (secN 16)).mono hb2.size)
  have HR3 := Lib.hid (HRA.out.older hb3)
  have HB3 := Lib.hid (HBA.out.trans (hb3.mono hzA))
  have HZ3 := Lib.hid (show w1.heap.size ≤ (A1.bworld w2 (secN 16)).heap.size by have h9 := hb3.size; have h8 := HRA.out.lt (.inl rfl); omega)
  have HS3 := Lib.hid (bytesAt_src (c := A1.bcap w2 (secN 16)) (A1.bytesAt_new w2 (secN 16)))
  clear hb2 hb3
  go_wp2_with (go_at_call 8; refine (add_any w1.heap.size w1.heap.size 0 [102, 105, 114, 115, 116] (secN 16) 0 (n0 + 1) (some ⟨w2.heap.size, 0, none⟩) (A1.bcap w2 (secN 16)) (fun _ => .slice none 0 0) (fun _ => []) _ HR3.out HZ3.out (by decide) (by decide) HS3.out).mono ?_; rw [HC.out]; rintro e w4 ⟨V4, E4, rfl, hd4, hst4, _⟩; have HD4 := Lib.hid hd4; have HK4 := Lib.hid (rot_keys hst4 HA1.out); clear hd4 hst4 hcv)
  go_at_call 9
  refine (hs17.out _).mono ?_
  rintro e w5 ⟨rfl, hb5⟩
  have HB4 := Lib.hid (HB3.out.trans (HD4.out.goes.touch.below (B := w.heap.size) (Nat.le_trans hz1 HZ3.out) (fun i hi => Nat.le_trans hz1 (HR3.out.ge hi))))
  have HZ4 := Lib.hid (Nat.le_trans HZ3.out HD4.out.goes.touch.size)
  have hcv := A1.conv_bytes w5 (secN 17)
  have hb6 := hb5.trans ((A1.bworld_below w5 (secN 17)).mono hb5.size)
  have HR6 := Lib.hid (HD4.out.ring.older hb6)
  have HB6 := Lib.hid (HB4.out.trans (hb6.mono HB4.out.size))
  have HZ6 := Lib.hid (Nat.le_trans HZ4.out hb6.size)
  have HS6 := Lib.hid (bytesAt_src (c := A1.bcap w5 (secN 17)) (A1.bytesAt_new w5 (secN 17)))
  have HL4 := Lib.hid (show (tlK E4 0).length = 1 by have h9 := congrArg List.length HK4.out; unfold keysOf at h9; rw [List.length_map] at h9; exact h9)
  have HRC := Lib.hid (show rotC 0 (keysOf E4 0) at_ (n2 + 1) (secN 17) = 0 by rw [HK4.out]; exact rot_code hm0 (by omega) (by omega) (by omega))
  have HRI := Lib.hid (show rotIdV 0 (keysOf E4 0) = .string ⟨#[107, 50]⟩ by unfold rotIdV; rw [if_pos rfl, HK4.out, rot_id])
  have HRL := Lib.hid (show rotL 0 (keysOf E4 0) at_ (n2 + 1) n3 (secN 17) = [kA (min (n0 + 1) (at_ + n3)), kB at_ (n2 + 1)] by rw [HK4.out]; exact rot_list hm0 hm1 (by omega) (by omega) (by omega) (by omega) (by omega))
  clear hb5 hb6
  go_wp2_with (go_at_call 10; refine (rotate_any w1.heap.size w1.heap.size 0 at_ (n2 + 1) n3 (secN 17) (some ⟨w5.heap.size, 0, none⟩) (A1.bcap w5 (secN 17)) V4 E4 _ HR6.out HZ6.out (by rw [HL4.out]; decide) HS6.out).mono ?_; rw [HRC.out, HRI.out, errC_ok rfl]; rintro e w7 ⟨V7, E7, rfl, hd7, hst7⟩; have HD7 := Lib.hid hd7; have HK7 := Lib.hid (rot_keys hst7 HRL.out); clear hd7 hst7 hcv)
  obtain ⟨stop, hstop⟩ : ∃ st, min (n0 + 1) (at_ + n3) = st := ⟨_, rfl⟩
  have HST := Lib.hid hstop
  have hst1 : 0 ≤ stop := by omega
  have hst2 : stop ≤ 65536 := by omega
  have hst3 : stop ≤ n0 + 1 := by omega
  have hstA : 0 < at_ ∨ 0 < stop ∨ stop = 0 := by omega
  rw [hstop] at HK7
  rw [hstop]
  clear hstop
  obtain ⟨x, y, hxy, hx, hy⟩ := two_keys HK7.out
  have HXY := Lib.hid hxy
  have HX := Lib.hid hx
  have HY := Lib.hid hy
  have HL7 := Lib.hid (show (tlK E7 0).length = 2 by rw [hxy]; rfl)
  have HB7 := Lib.hid (HB6.out.trans (HD7.out.goes.touch.below (B := w.heap.size) (Nat.le_trans hz1 HZ6.out) (fun i hi => Nat.le_trans hz1 (HR6.out.ge hi))))
  have HV1 := Lib.hid (fun (s : Int) (hs : s ≤ 65537) => show validE (tlK E7 0) [102, 105, 114, 115, 116] s = (decide (0 ≤ s) && decide (s < stop)) by rw [validE_keys]; show validL (keysOf E7 0) _ _ = _; rw [HK7.out]; exact valid_first hs)
  have HV2 := Lib.hid (fun (s : Int) (hs : s ≤ 200000) => show validE (tlK E7 0) [107, 50] s = (decide (at_ ≤ s) && decide (s < at_ + (n2 + 1))) by rw [validE_keys]; show validL (keysOf E7 0) _ _ = _; rw [HK7.out]; exact valid_two hs)
  have HIDS := Lib.hid (show idsL ((tlK E7 0).map Ent.key) = [[102, 105, 114, 115, 116], [107, 50]] by show idsL (keysOf E7 0) = _; rw [HK7.out]; show ([[102, 105, 114, 115, 116], [107, 50]] : List Bs).mergeSort (fun x y => decide (x ≤ y)) = _; apply List.mergeSort_of_pairwise; decide)
  have HSG := Lib.hid (show signI (keysOf E7 0) at_ = if at_ = 0 ∧ 0 < stop then some 0 else some 1 by rw [HK7.out]; exact sign_two hm0 (by omega) (by omega))
  have HSGN : Hid (∀ w', RingAt w' w1.heap.size w1.heap.size V7 E7 → Calls Tryd.prog 11 #[ptrK w1.heap.size, .int .i64 0, .int .i64 at_] w' fun e w2 => ∃ ua uc ul fr ti, e = .returned (.tuple #[keyV (if at_ = 0 ∧ 0 < stop then [102, 105, 114, 115, 116] else [107, 50]) (.slice ua ul uc) fr ti, .nilIface]) ∧ Below w'.heap.size w' w2) := Lib.hid (fun w' hr => by
    by_cases hc : at_ = 0 ∧ 0 < stop
    · refine (sign_some w1.heap.size w1.heap.size 0 at_ V7 E7 w' hr (by rw [HL7.out]; decide) 0 x (by rw [HSG.out, if_pos hc]) (by rw [HXY.out]; rfl) (by rw [HX.out]; show (secN 16).length ≤ 1000000; decide)).mono ?_
      rintro e w2 ⟨ua, uc, rfl, _, hb⟩
      exact ⟨ua, uc, _, _, _, by rw [if_pos hc, HX.out]; rfl, hb⟩
    · refine (sign_some w1.heap.size w1.heap.size 0 at_ V7 E7 w' hr (by rw [HL7.out]; decide) 1 y (by rw [HSG.out, if_neg hc]) (by rw [HXY.out]; rfl) (by rw [HY.out]; show (secN 17).length ≤ 1000000; decide)).mono ?_
      rintro e w2 ⟨ua, uc, rfl, _, hb⟩
      exact ⟨ua, uc, _, _, _, by rw [if_neg hc, HY.out]; rfl, hb⟩)
  clear hxy hx hy
  refine (HSGN.out _ HD7.out.ring).mono ?_
  rintro e w8 ⟨ua, uc, ul, fr, ti, rfl, hb8⟩
  have hz7 := HB7.out.size
  obtain ⟨idv, hidv⟩ : ∃ idv : Bs, (if at_ = 0 ∧ 0 < stop then [102, 105, 114, 115, 116] else [107, 50]) = idv := ⟨_, rfl⟩
  rw [hidv]
  have hb9 := hb8.alloc hb8.size (.cells #[.string ⟨idv.toArray⟩, .slice ua ul uc, .int .i64 fr, .int .i64 ti] 32)
  have HR9 := Lib.hid (HD7.out.ring.older hb9)
  have HB9 := Lib.hid (HB7.out.trans (hb9.mono hz7))
  have HX9 := Lib.hid (Bx.new w8 32 #[.string ⟨idv.toArray⟩, .slice ua ul uc, .int .i64 fr, .int .i64 ti])
  clear hb8 hb9
  have i1 : IntKind.i64.wrap (stop - 1) = stop - 1 := IntWalk.i64_in _ (by omega)
  have ways : (0 < at_ ∧ idv = [107, 50]) ∨ (at_ ≤ 0 ∧ at_ < stop ∧ idv = [102, 105, 114, 115, 116]) ∨ (at_ ≤ 0 ∧ stop ≤ at_ ∧ idv = [107, 50]) := by
    by_cases h0 : 0 < at_
    · exact .inl ⟨h0, by rw [← hidv, if_neg (by omega)]⟩
    · by_cases h1 : 0 < stop
      · exact .inr (.inl ⟨by omega, by omega, by rw [← hidv, if_pos ⟨by omega, h1⟩]⟩)
      · exact .inr (.inr ⟨by omega, by omega, by rw [← hidv, if_neg (by omega)]⟩)
  clear hidv hstA
  have j1 : IntKind.i64.wrap (at_ + n2) = at_ + n2 := IntWalk.i64_in _ (by omega)
  rcases ways with ⟨h0, rfl⟩ | ⟨h0, h1, rfl⟩ | ⟨h0, h1, rfl⟩
  · go_wp2_with fail
    have hb10 := ((Below.refl (w8.alloc (.cells #[.string ⟨([107, 50] : Bs).toArray⟩, .slice ua ul uc, .int .i64 fr, .int .i64 ti] 32)).heap.size (w8.alloc (.cells #[.string ⟨([107, 50] : Bs).toArray⟩, .slice ua ul uc, .int .i64 fr, .int .i64 ti] 32))).alloc (Nat.le_refl _) (.cells #[.int .i64 at_, .int .i64 (stop - 1), .int .i64 stop, .int .i64 n0, .int .i64 (n0 + 1)] 3))
    have HL10 := Lib.hid (Bx.new (w8.alloc (.cells #[.string ⟨([107, 50] : Bs).toArray⟩, .slice ua ul uc, .int .i64 fr, .int .i64 ti] 32)) 3 #[.int .i64 at_, .int .i64 (stop - 1), .int .i64 stop, .int .i64 n0, .int .i64 (n0 + 1)])
    have HR10 := Lib.hid (HR9.out.older hb10)
    have HB10 := Lib.hid (HB9.out.trans (hb10.mono HB9.out.size))
    have hzk : (w8.alloc (.cells #[.string ⟨([107, 50] : Bs).toArray⟩, .slice ua ul uc, .int .i64 fr, .int .i64 ti] 32)).heap.size = w8.heap.size + 1 := by simp
    rw [hzk] at HL10
    clear hzk hb10
    generalize (w8.alloc (.cells #[.string ⟨([107, 50] : Bs).toArray⟩, .slice ua ul uc, .int .i64 fr, .int .i64 ti] 32)).alloc (.cells #[.int .i64 at_, .int .i64 (stop - 1), .int .i64 stop, .int .i64 n0, .int .i64 (n0 + 1)] 3) = wL at HL10 HR10 HB10 ⊢
    have HCEL : Hid (∀ k : Nat, k < 5 → ∃ s : Int, wL.cell? ⟨w8.heap.size + 1, k, none⟩ = some (.int .i64 s) ∧ -1 ≤ s ∧ s ≤ 65536) := Lib.hid (fun k hk => by
      match k, hk with
      | 0, _ => exact ⟨_, HL10.out.cell rfl, by omega, by omega⟩
      | 1, _ => exact ⟨_, HL10.out.cell rfl, by omega, by omega⟩
      | 2, _ => exact ⟨_, HL10.out.cell rfl, by omega, by omega⟩
      | 3, _ => exact ⟨_, HL10.out.cell rfl, by omega, by omega⟩
      | 4, _ => exact ⟨_, HL10.out.cell rfl, by omega, by omega⟩)
    have hzL := HL10.out.lt
    go_loop [18, 104] (fun _ iv => ∃ k : Nat, k ≤ 5 ∧ iv = .int .i64 k) (fun _ iv => 5 - (intOf iv).toNat)
    case atStart => exact ⟨0, by omega, rfl⟩
    case round =>
      obtain ⟨k, hk, rfl⟩ := hrel
      by_cases hlt : k < 5
      · obtain ⟨s, hs0, hs1, hs2⟩ := HCEL.out k hlt
        have HVS := Lib.hid (HV1.out s (by omega))
        have hk1 : (0 : Int) ≤ (k : Int) := by omega
        have hk2 : (k : Int) < 5 := by omega
        by_cases g0 : 0 ≤ s
        · by_cases g1 : s < stop
          · have HVB := Lib.hid (show (decide (0 ≤ s) && decide (s < stop)) = true by rw [decide_eq_true g0, decide_eq_true g1]; rfl)
            go_wp2_with (go_at_call 12; refine (valid_any w1.heap.size w1.heap.size 0 s [102, 105, 114, 115, 116] V7 E7 _ HR10.out (by rw [HL7.out]; decide)).mono ?_; rw [HVS.out, HVB.out]; rintro e w' ⟨rfl, rfl⟩)
            go_round
            case rel => exact ⟨k + 1, by omega, by go_num⟩
            case measure => simp [intOf]; omega
          · have HVB := Lib.hid (show (decide (0 ≤ s) && decide (s < stop)) = false by rw [decide_eq_false g1, Bool.and_false])
            go_wp2_with (go_at_call 12; refine (valid_any w1.heap.size w1.heap.size 0 s [102, 105, 114, 115, 116] V7 E7 _ HR10.out (by rw [HL7.out]; decide)).mono ?_; rw [HVS.out, HVB.out]; rintro e w' ⟨rfl, rfl⟩)
            go_round
            case rel => exact ⟨k + 1, by omega, by go_num⟩
            case measure => simp [intOf]; omega
        · have HVB := Lib.hid (show (decide (0 ≤ s) && decide (s < stop)) = false by rw [decide_eq_false g0, Bool.false_and])
          go_wp2_with (go_at_call 12; refine (valid_any w1.heap.size w1.heap.size 0 s [102, 105, 114, 115, 116] V7 E7 _ HR10.out (by rw [HL7.out]; decide)).mono ?_; rw [HVS.out, HVB.out]; rintro e w' ⟨rfl, rfl⟩)
          go_round
          case rel => exact ⟨k + 1, by omega, by go_num⟩
          case measure => simp [intOf]; omega
      · have HW1 := Lib.hid (show validE (tlK E7 0) [107, 50] at_ = true by rw [HV2.out _ (by omega), decide_eq_true (by omega), decide_eq_true (by omega)]; rfl)
        have HW2 := Lib.hid (show validE (tlK E7 0) [107, 50] (at_ + n2) = true by rw [HV2.out _ (by omega), decide_eq_true (by omega), decide_eq_true (by omega)]; rfl)
        have HW3 := Lib.hid (show validE (tlK E7 0) [107, 50] (at_ + n2 + 1) = false by rw [HV2.out _ (by omega), decide_eq_false (show ¬ at_ + n2 + 1 < at_ + (n2 + 1) by omega), Bool.and_false])
        have hzB := HB10.out.size
        go_wp2_with (first
          | (go_at_call 12; refine (valid_any w1.heap.size w1.heap.size 0 _ [107, 50] V7 E7 _ HR10.out (by rw [HL7.out]; decide)).mono ?_; (first | rw [HW1.out] | rw [HW2.out] | rw [HW3.out]); rintro e w' ⟨rfl, rfl⟩)
          | (go_at_call 14; refine (ids_any w1.heap.size w1.heap.size 0 V7 E7 _ HR10.out (by rw [HL7.out]; decide)).mono ?_; rw [HIDS.out, HL7.out]; rintro e wI ⟨u, rfl, hu, hbI⟩; have hsI := strsK_own (l := [[102, 105, 114, 115, 116], [107, 50]]) hu; have HBI := Lib.hid (HB10.out.trans (hbI.mono hzB)); have hal := (Below.refl wI.heap.size wI).alloc (Nat.le_refl _) (.cells #[.string ⟨#[102, 105, 114, 115, 116]⟩, .string ⟨#[107, 50]⟩] 9); have HSI := Lib.hid (hsI.below hal); have HSJ := Lib.hid (two_strs wI); have hzI := HBI.out.size; clear hu hbI hsI hal)
          | (go_at_call 13; refine (A1.texts_any [[102, 105, 114, 115, 116], [107, 50]] [[102, 105, 114, 115, 116], [107, 50]] _ _ _ HSI.out HSJ.out (by decide) (by decide)).mono ?_; rw [decide_eq_true rfl]; rintro e wT ⟨rfl, hbT⟩))
        go_ret
        exact ⟨rfl, (HBI.out.alloc hzI _).trans (hbT.mono (by simp; omega))⟩
  · go_wp2_with fail
    have hb10 := ((Below.refl (w8.alloc (.cells #[.string ⟨([102, 105, 114, 115, 116] : Bs).toArray⟩, .slice ua ul uc, .int .i64 fr, .int .i64 ti] 32)).heap.size (w8.alloc (.cells #[.string ⟨([102, 105, 114, 115, 116] : Bs).toArray⟩, .slice ua ul uc, .int .i64 fr, .int .i64 ti] 32))).alloc (Nat.le_refl _) (.cells #[.int .i64 at_, .int .i64 (stop - 1), .int .i64 stop, .int .i64 n0, .int .i64 (n0 + 1)] 3))
    have HL10 := Lib.hid (Bx.new (w8.alloc (.cells #[.string ⟨([102, 105, 114, 115, 116] : Bs).toArray⟩, .slice ua ul uc, .int .i64 fr, .int .i64 ti] 32)) 3 #[.int .i64 at_, .int .i64 (stop - 1), .int .i64 stop, .int .i64 n0, .int .i64 (n0 + 1)])
    have HR10 := Lib.hid (HR9.out.older hb10)
    have HB10 := Lib.hid (HB9.out.trans (hb10.mono HB9.out.size))
    have hzk : (w8.alloc (.cells #[.string ⟨([102, 105, 114, 115, 116] : Bs).toArray⟩, .slice ua ul uc, .int .i64 fr, .int .i64 ti] 32)).heap.size = w8.heap.size + 1 := by simp
    rw [hzk] at HL10
    clear hzk hb10
    generalize (w8.alloc (.cells #[.string ⟨([102, 105, 114, 115, 116] : Bs).toArray⟩, .slice ua ul uc, .int .i64 fr, .int .i64 ti] 32)).alloc (.cells #[.int .i64 at_, .int .i64 (stop - 1), .int .i64 stop, .int .i64 n0, .int .i64 (n0 + 1)] 3) = wL at HL10 HR10 HB10 ⊢
    have HCEL : Hid (∀ k : Nat, k < 5 → ∃ s : Int, wL.cell? ⟨w8.heap.size + 1, k, none⟩ = some (.int .i64 s) ∧ -1 ≤ s ∧ s ≤ 65536) := Lib.hid (fun k hk => by
      match k, hk with
      | 0, _ => exact ⟨_, HL10.out.cell rfl, by omega, by omega⟩
      | 1, _ => exact ⟨_, HL10.out.cell rfl, by omega, by omega⟩
      | 2, _ => exact ⟨_, HL10.out.cell rfl, by omega, by omega⟩
      | 3, _ => exact ⟨_, HL10.out.cell rfl, by omega, by omega⟩
      | 4, _ => exact ⟨_, HL10.out.cell rfl, by omega, by omega⟩)
    have hzL := HL10.out.lt
    go_loop [18, 104] (fun _ iv => ∃ k : Nat, k ≤ 5 ∧ iv = .int .i64 k) (fun _ iv => 5 - (intOf iv).toNat)
    case atStart => exact ⟨0, by omega, rfl⟩
    case round =>
      obtain ⟨k, hk, rfl⟩ := hrel
      by_cases hlt : k < 5
      · obtain ⟨s, hs0, hs1, hs2⟩ := HCEL.out k hlt
        have HVS := Lib.hid (HV1.out s (by omega))
        have hk1 : (0 : Int) ≤ (k : Int) := by omega
        have hk2 : (k : Int) < 5 := by omega
        by_cases g0 : 0 ≤ s
        · by_cases g1 : s < stop
          · have HVB := Lib.hid (show (decide (0 ≤ s) && decide (s < stop)) = true by rw [decide_eq_true g0, decide_eq_true g1]; rfl)
            go_wp2_with (go_at_call 12; refine (valid_any w1.heap.size w1.heap.size 0 s [102, 105, 114, 115, 116] V7 E7 _ HR10.out (by rw [HL7.out]; decide)).mono ?_; rw [HVS.out, HVB.out]; rintro e w' ⟨rfl, rfl⟩)
            go_round
            case rel => exact ⟨k + 1, by omega, by go_num⟩
            case measure => simp [intOf]; omega
          · have HVB := Lib.hid (show (decide (0 ≤ s) && decide (s < stop)) = false by rw [decide_eq_false g1, Bool.and_false])
            go_wp2_with (go_at_call 12; refine (valid_any w1.heap.size w1.heap.size 0 s [102, 105, 114, 115, 116] V7 E7 _ HR10.out (by rw [HL7.out]; decide)).mono ?_; rw [HVS.out, HVB.out]; rintro e w' ⟨rfl, rfl⟩)
            go_round
            case rel => exact ⟨k + 1, by omega, by go_num⟩
            case measure => simp [intOf]; omega
        · have HVB := Lib.hid (show (decide (0 ≤ s) && decide (s < stop)) = false by rw [decide_eq_false g0, Bool.false_and])
          go_wp2_with (go_at_call 12; refine (valid_any w1.heap.size w1.heap.size 0 s [102, 105, 114, 115, 116] V7 E7 _ HR10.out (by rw [HL7.out]; decide)).mono ?_; rw [HVS.out, HVB.out]; rintro e w' ⟨rfl, rfl⟩)
          go_round
          case rel => exact ⟨k + 1, by omega, by go_num⟩
          case measure => simp [intOf]; omega
      · have HW1 := Lib.hid (show validE (tlK E7 0) [107, 50] at_ = true by rw [HV2.out _ (by omega), decide_eq_true (by omega), decide_eq_true (by omega)]; rfl)
        have HW2 := Lib.hid (show validE (tlK E7 0) [107, 50] (at_ + n2) = true by rw [HV2.out _ (by omega), decide_eq_true (by omega), decide_eq_true (by omega)]; rfl)
        have HW3 := Lib.hid (show validE (tlK E7 0) [107, 50] (at_ + n2 + 1) = false by rw [HV2.out _ (by omega), decide_eq_false (show ¬ at_ + n2 + 1 < at_ + (n2 + 1) by omega), Bool.and_false])
        have hzB := HB10.out.size
        go_wp2_with (first
          | (go_at_call 12; refine (valid_any w1.heap.size w1.heap.size 0 _ [107, 50] V7 E7 _ HR10.out (by rw [HL7.out]; decide)).mono ?_; (first | rw [HW1.out] | rw [HW2.out] | rw [HW3.out]); rintro e w' ⟨rfl, rfl⟩)
          | (go_at_call 14; refine (ids_any w1.heap.size w1.heap.size 0 V7 E7 _ HR10.out (by rw [HL7.out]; decide)).mono ?_; rw [HIDS.out, HL7.out]; rintro e wI ⟨u, rfl, hu, hbI⟩; have hsI := strsK_own (l := [[102, 105, 114, 115, 116], [107, 50]]) hu; have HBI := Lib.hid (HB10.out.trans (hbI.mono hzB)); have hal := (Below.refl wI.heap.size wI).alloc (Nat.le_refl _) (.cells #[.string ⟨#[102, 105, 114, 115, 116]⟩, .string ⟨#[107, 50]⟩] 9); have HSI := Lib.hid (hsI.below hal); have HSJ := Lib.hid (two_strs wI); have hzI := HBI.out.size; clear hu hbI hsI hal)
          | (go_at_call 13; refine (A1.texts_any [[102, 105, 114, 115, 116], [107, 50]] [[102, 105, 114, 115, 116], [107, 50]] _ _ _ HSI.out HSJ.out (by decide) (by decide)).mono ?_; rw [decide_eq_true rfl]; rintro e wT ⟨rfl, hbT⟩))
        go_ret
        exact ⟨rfl, (HBI.out.alloc hzI _).trans (hbT.mono (by simp; omega))⟩
  · go_wp2_with fail
    have hb10 := ((Below.refl (w8.alloc (.cells #[.string ⟨([107, 50] : Bs).toArray⟩, .slice ua ul uc, .int .i64 fr, .int .i64 ti] 32)).heap.size (w8.alloc (.cells #[.string ⟨([107, 50] : Bs).toArray⟩, .slice ua ul uc, .int .i64 fr, .int .i64 ti] 32))).alloc (Nat.le_refl _) (.cells #[.int .i64 at_, .int .i64 (stop - 1), .int .i64 stop, .int .i64 n0, .int .i64 (n0 + 1)] 3))
    have HL10 := Lib.hid (Bx.new (w8.alloc (.cells #[.string ⟨([107, 50] : Bs).toArray⟩, .slice ua ul uc, .int .i64 fr, .int .i64 ti] 32)) 3 #[.int .i64 at_, .int .i64 (stop - 1), .int .i64 stop, .int .i64 n0, .int .i64 (n0 + 1)])
    have HR10 := Lib.hid (HR9.out.older hb10)
    have HB10 := Lib.hid (HB9.out.trans (hb10.mono HB9.out.size))
    have hzk : (w8.alloc (.cells #[.string ⟨([107, 50] : Bs).toArray⟩, .slice ua ul uc, .int .i64 fr, .int .i64 ti] 32)).heap.size = w8.heap.size + 1 := by simp
    rw [hzk] at HL10
    clear hzk hb10
    generalize (w8.alloc (.cells #[.string ⟨([107, 50] : Bs).toArray⟩, .slice ua ul uc, .int .i64 fr, .int .i64 ti] 32)).alloc (.cells #[.int .i64 at_, .int .i64 (stop - 1), .int .i64 stop, .int .i64 n0, .int .i64 (n0 + 1)] 3) = wL at HL10 HR10 HB10 ⊢
    have HCEL : Hid (∀ k : Nat, k < 5 → ∃ s : Int, wL.cell? ⟨w8.heap.size + 1, k, none⟩ = some (.int .i64 s) ∧ -1 ≤ s ∧ s ≤ 65536) := Lib.hid (fun k hk => by
      match k, hk with
      | 0, _ => exact ⟨_, HL10.out.cell rfl, by omega, by omega⟩
      | 1, _ => exact ⟨_, HL10.out.cell rfl, by omega, by omega⟩
      | 2, _ => exact ⟨_, HL10.out.cell rfl, by omega, by omega⟩
      | 3, _ => exact ⟨_, HL10.out.cell rfl, by omega, by omega⟩
      | 4, _ => exact ⟨_, HL10.out.cell rfl, by omega, by omega⟩)
    have hzL := HL10.out.lt
    go_loop [18, 104] (fun _ iv => ∃ k : Nat, k ≤ 5 ∧ iv = .int .i64 k) (fun _ iv => 5 - (intOf iv).toNat)
    case atStart => exact ⟨0, by omega, rfl⟩
    case round =>
      obtain ⟨k, hk, rfl⟩ := hrel
      by_cases hlt : k < 5
      · obtain ⟨s, hs0, hs1, hs2⟩ := HCEL.out k hlt
        have HVS := Lib.hid (HV1.out s (by omega))
        have hk1 : (0 : Int) ≤ (k : Int) := by omega
        have hk2 : (k : Int) < 5 := by omega
        by_cases g0 : 0 ≤ s
        · by_cases g1 : s < stop
          · have HVB := Lib.hid (show (decide (0 ≤ s) && decide (s < stop)) = true by rw [decide_eq_true g0, decide_eq_true g1]; rfl)
            go_wp2_with (go_at_call 12; refine (valid_any w1.heap.size w1.heap.size 0 s [102, 105, 114, 115, 116] V7 E7 _ HR10.out (by rw [HL7.out]; decide)).mono ?_; rw [HVS.out, HVB.out]; rintro e w' ⟨rfl, rfl⟩)
            go_round
            case rel => exact ⟨k + 1, by omega, by go_num⟩
            case measure => simp [intOf]; omega
          · have HVB := Lib.hid (show (decide (0 ≤ s) && decide (s < stop)) = false by rw [decide_eq_false g1, Bool.and_false])
            go_wp2_with (go_at_call 12; refine (valid_any w1.heap.size w1.heap.size 0 s [102, 105, 114, 115, 116] V7 E7 _ HR10.out (by rw [HL7.out]; decide)).mono ?_; rw [HVS.out, HVB.out]; rintro e w' ⟨rfl, rfl⟩)
            go_round
            case rel => exact ⟨k + 1, by omega, by go_num⟩
            case measure => simp [intOf]; omega
        · have HVB := Lib.hid (show (decide (0 ≤ s) && decide (s < stop)) = false by rw [decide_eq_false g0, Bool.false_and])
          go_wp2_with (go_at_call 12; refine (valid_any w1.heap.size w1.heap.size 0 s [102, 105, 114, 115, 116] V7 E7 _ HR10.out (by rw [HL7.out]; decide)).mono ?_; rw [HVS.out, HVB.out]; rintro e w' ⟨rfl, rfl⟩)
          go_round
          case rel => exact ⟨k + 1, by omega, by go_num⟩
          case measure => simp [intOf]; omega
      · have HW1 := Lib.hid (show validE (tlK E7 0) [107, 50] at_ = true by rw [HV2.out _ (by omega), decide_eq_true (by omega), decide_eq_true (by omega)]; rfl)
        have HW2 := Lib.hid (show validE (tlK E7 0) [107, 50] (at_ + n2) = true by rw [HV2.out _ (by omega), decide_eq_true (by omega), decide_eq_true (by omega)]; rfl)
        have HW3 := Lib.hid (show validE (tlK E7 0) [107, 50] (at_ + n2 + 1) = false by rw [HV2.out _ (by omega), decide_eq_false (show ¬ at_ + n2 + 1 < at_ + (n2 + 1) by omega), Bool.and_false])
        have hzB := HB10.out.size
        go_wp2_with (first
          | (go_at_call 12; refine (valid_any w1.heap.size w1.heap.size 0 _ [107, 50] V7 E7 _ HR10.out (by rw [HL7.out]; decide)).mono ?_; (first | rw [HW1.out] | rw [HW2.out] | rw [HW3.out]); rintro e w' ⟨rfl, rfl⟩)
          | (go_at_call 14; refine (ids_any w1.heap.size w1.heap.size 0 V7 E7 _ HR10.out (by rw [HL7.out]; decide)).mono ?_; rw [HIDS.out, HL7.out]; rintro e wI ⟨u, rfl, hu, hbI⟩; have hsI := strsK_own (l := [[102, 105, 114, 115, 116], [107, 50]]) hu; have HBI := Lib.hid (HB10.out.trans (hbI.mono hzB)); have hal := (Below.refl wI.heap.size wI).alloc (Nat.le_refl _) (.cells #[.string ⟨#[102, 105, 114, 115, 116]⟩, .string ⟨#[107, 50]⟩] 9); have HSI := Lib.hid (hsI.below hal); have HSJ := Lib.hid (two_strs wI); have hzI := HBI.out.size; clear hu hbI hsI hal)
          | (go_at_call 13; refine (A1.texts_any [[102, 105, 114, 115, 116], [107, 50]] [[102, 105, 114, 115, 116], [107, 50]] _ _ _ HSI.out HSJ.out (by decide) (by decide)).mono ?_; rw [decide_eq_true rfl]; rintro e wT ⟨rfl, hbT⟩))
        go_ret
        exact ⟨rfl, (HBI.out.alloc hzI _).trans (hbT.mono (by simp; omega))⟩

/-- What the walk gives, for every argument. -/
theorem contract (H : Type) (enc : TypeId × Value → H) (W : World) (base : Nat) (args : Array Value) (ds gs : List (DataW H)) (before : List MemPlace)
    (hval : ∀ (j : Nat) t v, Tryd.f3.params[j]? = some t → args[j]? = some v → Value.okWide Tryd.prog W .any base t v)
    (hW : DataW.Whole enc Tryd.prog Tryd.f3.params.toList Rows.keyringRotatesSpec.vars false W args.toList ds gs before) (hsz : (DataW.weightsEach Tryd.prog Tryd.f3.params.toList (ds ++ gs)).all (· ≤ reachBytes) = true) :
    Calls Tryd.prog 3 args W fun e W' => ∃ v, e = .returned v ∧ Rows.keyringRotatesSpec.post enc Tryd.prog Tryd.f3 false true false false W args v W' := by
  have hW' := hW
  have hlt := fun p hp => hW.lt p hp
  obtain ⟨p, q, hA0, hV, rfl, hfz, hnd⟩ := hW
  have hA : DataW.TrodAll enc Tryd.prog W 0 (fun _ => true) true Tryd.f3.params.toList args.toList ds p := hA0
  have hA1 := hA
  obtain ⟨rfl, rfl⟩ := trodVars_none hV
  rw [Tryd.params3] at hA hval
  obtain ⟨v0, vs0, d0, ds0, p0, q0, hargs, rfl, rfl, h0, r0⟩ := trodAll_cons hA
  obtain ⟨v1, vs1, d1, ds1, p1, q1, rfl, rfl, rfl, h1, r1⟩ := trodAll_cons r0
  obtain ⟨v2, vs2, d2, ds2, p2, q2, rfl, rfl, rfl, h2, r2⟩ := trodAll_cons r1
  obtain ⟨v3, vs3, d3, ds3, p3, q3, rfl, rfl, rfl, h3, r3⟩ := trodAll_cons r2
  obtain ⟨rfl, rfl, rfl⟩ := trodAll_nil r3
  obtain rfl : args = #[v0, v1, v2, v3] := by cases args; simp_all
  have fin : ∀ W', Below W.heap.size W W' → Rows.keyringRotatesSpec.post enc Tryd.prog Tryd.f3 false true false false W #[v0, v1, v2, v3] (.bool true) W' := fun W' hb => by
    simp only [List.append_nil] at hA1 hW' hlt
    exact ⟨_, _, _, [], _, [], hW', trodAll_cons_mk (shut_bool Tryd.underlying4 _) trodAll_mk0, Fr.trodAll_below (by kernel_rfl) _ (by kernel_rfl) hA1 hb hlt, rfl, hb.frame _, fun h => by cases h⟩
  clear hW' hA0 hA1 hlt
  rw [Tryd.params3, List.append_nil] at hsz
  obtain ⟨n0, rfl, rfl, rfl, wf0⟩ := open_int Tryd.underlying22 (hval 0 22 v0 rfl rfl) h0
  have m0 := Fr.u16_range wf0
  obtain ⟨n1, rfl, rfl, rfl, wf1⟩ := open_int Tryd.underlying22 (hval 1 22 v1 rfl rfl) h1
  have m1 := Fr.u16_range wf1
  obtain ⟨n2, rfl, rfl, rfl, wf2⟩ := open_int Tryd.underlying22 (hval 2 22 v2 rfl rfl) h2
  have m2 := Fr.u16_range wf2
  obtain ⟨n3, rfl, rfl, rfl, wf3⟩ := open_int Tryd.underlying22 (hval 3 22 v3 rfl rfl) h3
  have m3 := Fr.u16_range wf3
  refine (walk n0 n1 n2 n3 W m0 m1 m2 m3).mono fun e W' ⟨he, hb⟩ => ?_
  subst he
  exact ⟨_, rfl, fin W' hb⟩

theorem laid_met (os : Os) : laidMet Tryd.prog Rows.keyringRotatesRow.laid ((Fr.laidW Rows.keyringRotatesRow.laid os).forCall (fun _ _ => 0) ⟨#[], #[.int .u16 0, .int .u16 0, .int .u16 0, .int .u16 0], []⟩).memory :=
  laidMet_of_run' 8 (by kernel_rfl) (by kernel_rfl)
theorem reads (os : Os) {H : Type} (enc : TypeId × Value → H) : ∃ places, DataW.whole enc Tryd.prog ((Fr.laidW Rows.keyringRotatesRow.laid os).forCall (fun _ _ => 0) ⟨#[], #[.int .u16 0, .int .u16 0, .int .u16 0, .int .u16 0], []⟩).memory Tryd.f3.params.toList Rows.keyringRotatesSpec.vars false (#[.int .u16 0, .int .u16 0, .int .u16 0, .int .u16 0] : Array Value).toList 8 = some ([.lit (.int .u16 0), .lit (.int .u16 0), .lit (.int .u16 0), .lit (.int .u16 0)], [], places) :=
  ⟨[], by kernel_rfl⟩

theorem lifted (os : Os) (started : os.Started) (H : Type) (enc : TypeId × Value → H) (F : Stop.Interp) :
    ReturnsInHanded {} Tryd.checked os 3 .any ((OpenSpec.ofChange Rows.keyringRotatesSpec).preRow enc Tryd.prog Tryd.f3 Rows.keyringRotatesRow.domain false Rows.keyringRotatesRow.laid) (((OpenSpec.ofChange Rows.keyringRotatesSpec).at F).post enc Tryd.prog Tryd.f3 false true false false) := by
  obtain ⟨places, hx⟩ := reads os enc
  refine returnsInHanded_of_row (C := Tryd.checked) (s := OpenSpec.ofChange Rows.keyringRotatesSpec) Fr.own started (by kernel_rfl) Tryd.func3
    (witness_row_at (enc := enc) (C := Tryd.checked) false (Fr.laidW Rows.keyringRotatesRow.laid os) #[.int .u16 0, .int .u16 0, .int .u16 0, .int .u16 0] rfl (by kernel_rfl) (by kernel_rfl) (by kernel_rfl)
      (OpenSpec.preRow_of_cond 8 hx (by kernel_rfl) (fun k hk => by cases hk) (by kernel_rfl) (laid_met os))) ?_
  intro W base args ds gs before hval hW _ hcond hsz _ hsh _
  exact contract H enc W base args ds gs before hval hW (by have h9 : (DataW.weightsEach Tryd.prog (Tryd.f3.params.toList ++ []) (ds ++ gs)).all (· ≤ reachBytes) = true := hsz; rw [List.append_nil] at h9; exact h9)

theorem said : Rows.KeyringRotatesSaid :=
  OpenClaim.holds_of_cond 3 Tryd.f3 rfl rfl rfl rfl rfl rfl rfl ⟨rfl, rfl, rfl, rfl, rfl⟩ rfl rfl rfl rfl rfl (by kernel_rfl) Tryd.func3 (by kernel_rfl)
    (of_decide_eq_true (by kernel_rfl)) (by unfold Func.isWrapper; first | (rw [if_pos (by decide +kernel)]; kernel_rfl) | (rw [if_neg (by decide +kernel)]; exact ⟨rfl, rfl⟩))
    (fun os started H enc _ F => by rw [OpenClaim.pre_eq_preRow]; exact lifted os started H enc F)

theorem plain (b : Bool) (hb : b = Tryd.pinned.checked.prog.looks []) (f : FuncId) (fn : Func) (hf : Tryd.pinned.checked.prog.funcNamed "quayside/quaysidelaw50.KeyringRotates" = some f) (hfn : Tryd.pinned.checked.prog.funcs[f]? = some fn) :
    b = Tryd.pinned.checked.prog.looks [] ∧ ∀ (j : Nat) t, fn.params[j]? = some t → Tryd.pinned.checked.prog.wantsStandIn t = false := by
  obtain rfl : f = 3 := Option.some.inj ((show Tryd.prog.funcNamed "quayside/quaysidelaw50.KeyringRotates" = some 3 by kernel_rfl).symm.trans hf) |>.symm
  obtain rfl : fn = Tryd.f3 := (Option.some.inj (Tryd.func3.symm.trans hfn)).symm
  refine ⟨hb, fun j t ht => ?_⟩
  rw [Tryd.params3] at ht
  have hm : t ∈ [22] := by simpa using Array.mem_of_getElem? ht
  have hall : ([22].all fun u => !Tryd.prog.wantsStandIn u) = true := by kernel_rfl
  exact (show Tryd.prog.wantsStandIn t = false by simpa using List.all_eq_true.1 hall t hm)

theorem proved : Rows.KeyringRotatesCardSaid :=
  Claim7.holds_tied_plain_at .later [] _ _ _ _ said (fun _ h => by cases h) (by kernel_rfl) (fun _ h => by cases h) keyringRotates_row_tie rfl ⟨rfl, rfl⟩ (by kernel_rfl) rfl (plain _ (by kernel_rfl)) (by kernel_rfl)
#print axioms proved
end Go.Proofs.YtbpbopjlcidefaaDoor.lawKeyringRotates
