/- Contract: the keyring's Rotate. Conditions: at most 98 keys. -/
import Derived.Test.YtbpbopjlcidefaaDoorKeyI
namespace Go.Proofs.YtbpbopjlcidefaaDoor
open Go.RowKit Pl Ad
attribute [local go_sem] ba_get ba_append ba_extract_end ba_extract_zero ba_extract
set_option maxRecDepth 100000
set_option maxHeartbeats 4000000
set_option linter.unusedVariables false
set_option linter.unusedSimpArgs false
namespace Kr
theorem itoaK_any (n : Nat) (h : n < 98) (w : World) :
    Calls Tryd.prog 27 #[.int .i64 ((n : Int) + 1)] w fun e w' => e = .returned (.string ⟨(Lib.decDigits (n + 1)).toArray⟩) ∧ w = w' := by
  have := (Tryd.strconv_Itoa_small (n + 1) (by omega) w).mono fun e w' hx => (⟨hx.1, hx.2.symm⟩ : e = _ ∧ w = w')
  simpa using this
theorem dig_len {n : Nat} (h : n < 98) : (Lib.decDigits (n + 1)).length ≤ 2 := by
  have g : ∀ m : Fin 98, (Lib.decDigits (m.val + 1)).length ≤ 2 := by decide +kernel
  exact g ⟨n, h⟩
theorem rotId_len (l : List KeyM) (h : l.length < 98) : (rotId l).length ≤ 2147483648 := by
  have g : ∀ m : Fin 98, (Lib.decDigits (m.val + 1)).length ≤ 2 := by decide +kernel
  have := g ⟨l.length, h⟩
  unfold rotId
  simp only [List.length_cons] at this ⊢
  omega
@[reducible] def rotIdV (c : Int) (l : List KeyM) : Value := if c = 0 then .string ⟨(rotId l).toArray⟩ else .string ⟨#[]⟩
theorem rotate_bad (B R : Nat) (t now life ov : Int) (sec : Bs) (sa : Option Addr) (sc : Nat) (V : Nat → Value) (E : Nat → List Ent) (w : World) (h : RingAt w B R V E) (hB : B ≤ w.heap.size) (hl : (tlK E t).length < 98)
    (hsec : SrcAt w (.slice sa sec.length sc) sec.length (bvals sec)) (hc : ¬ rotC t (keysOf E t) now life sec = 0) :
    Calls Tryd.prog 10 #[ptrK R, .int .i64 t, .int .i64 now, .int .i64 life, .int .i64 ov, .slice sa sec.length sc] w fun e w' => ∃ V' E', e = .returned (.tuple #[rotIdV (rotC t (keysOf E t) now life sec) (keysOf E t), errC (rotC t (keysOf E t) now life sec)]) ∧ RDone w w' B R V V' E E' ∧ KStep E E' t (rotL t (keysOf E t) now life ov sec) := by
  obtain ⟨a, c, hv, _⟩ := h.slot t
  have HR := Lib.hid h
  have HV := Lib.hid hv
  have HS := Lib.hid hsec
  have hn0 := clipK_lo now
  have hn1 := clipK_hi now
  have hl0 := clipK_lo life
  have hl1 := clipK_hi life
  have ho0 := clipK_lo ov
  have ho1 := clipK_hi ov
  have HID := Lib.hid (rotId_len (keysOf E t) (by unfold keysOf; rw [List.length_map]; exact hl))
  have HKL : Hid ((keysOf E t).length = (tlK E t).length) := Lib.hid (by unfold keysOf; rw [List.length_map])
  have hdl := dig_len hl
  obtain ⟨dd, hdd⟩ : ∃ dd, Lib.decDigits ((tlK E t).length + 1) = dd := ⟨_, rfl⟩
  have HDD := Lib.hid hdd
  rw [hdd] at hdl
  clear hdd
  have HRI : Hid (107 :: dd = rotId (keysOf E t)) := Lib.hid (by unfold rotId; rw [HKL.out, HDD.out])
  obtain ⟨cc, hcc⟩ : ∃ cc, rotC t (keysOf E t) now life sec = cc := ⟨_, rfl⟩
  have HC := Lib.hid (show errC (addC t (keysOf E t) ⟨rotId (keysOf E t), sec, clipK now, clipK now + clipK life, 0⟩) = .iface 65 (.int .i64 cc) from errC_err hcc (by rw [← hcc]; exact hc))
  have HCC := Lib.hid hcc
  have HN := Lib.hid hc
  have HAL := Lib.hid (show addL t (keysOf E t) ⟨rotId (keysOf E t), sec, clipK now, clipK now + clipK life, 0⟩ = rotL t (keysOf E t) now life ov sec by
    unfold rotL addL; rw [if_neg (show ¬ addC t (keysOf E t) ⟨rotId (keysOf E t), sec, clipK now, clipK now + clipK life, 0⟩ = 0 from hc), if_neg hc])
  obtain ⟨pp, hpp⟩ : ∃ pp, ptrP (tlK E t) (pickE (tlK E t) (clipK now) (tlK E t).length) = pp := ⟨_, rfl⟩
  have HP := Lib.hid hpp
  clear h hsec hv hcc hc hpp
  go_enter Tryd.func10, Tryd.ntmps10
  go_wp2_with (first | (go_at_call 23; refine (clip_any _ _).mono ?_; rintro e w' ⟨rfl, rfl⟩) | (go_at_call 26; refine (signing_any B R t (clipK now) V E _ HR.out (by omega)).mono ?_; rw [HP.out]; rintro e w' ⟨rfl, q, rfl⟩; have HR1 := Lib.hid (HR.out.older (below_drewN (Below.refl _ _) q)); have HS1 := Lib.hid (HS.out.older (below_drewN (Below.refl _ _) q))) | (go_at_call 28; refine (of_any B R t V E _ HR1.out).mono ?_; rw [HV.out]; rintro e w' ⟨rfl, rfl⟩) | (go_at_call 27; refine (itoaK_any _ hl _).mono ?_; rw [HDD.out]; rintro e w' ⟨rfl, rfl⟩) | (go_at_call 8; rw [HRI.out]; refine (add_any B R t (rotId (keysOf E t)) sec (clipK now) (clipK now + clipK life) sa sc V E _ HR1.out hB HID.out (by omega) HS1.out).mono ?_; rw [HC.out]; rintro e w2 ⟨V2, E2, rfl, hd2, hst2, hpre2⟩))
  go_ret2
  refine ⟨V2, E2, ?_, (RDone.same HR.out (below_drewN (Below.refl _ _) q)).trans hd2, by rw [← HAL.out]; exact hst2⟩
  rw [HCC.out]
  rw [show rotIdV cc (keysOf E t) = .string ⟨#[]⟩ from if_neg (by rw [← HCC.out]; exact HN.out), show errC cc = .iface 65 (.int .i64 cc) from errC_err rfl (by rw [← HCC.out]; exact HN.out)]
  rfl
theorem rotate_none (B R : Nat) (t now life ov : Int) (sec : Bs) (sa : Option Addr) (sc : Nat) (V : Nat → Value) (E : Nat → List Ent) (w : World) (h : RingAt w B R V E) (hB : B ≤ w.heap.size) (hl : (tlK E t).length < 98)
    (hsec : SrcAt w (.slice sa sec.length sc) sec.length (bvals sec)) (hc : rotC t (keysOf E t) now life sec = 0) (hs : signI (keysOf E t) (clipK now) = none) :
    Calls Tryd.prog 10 #[ptrK R, .int .i64 t, .int .i64 now, .int .i64 life, .int .i64 ov, .slice sa sec.length sc] w fun e w' => ∃ V' E', e = .returned (.tuple #[rotIdV (rotC t (keysOf E t) now life sec) (keysOf E t), errC (rotC t (keysOf E t) now life sec)]) ∧ RDone w w' B R V V' E E' ∧ KStep E E' t (rotL t (keysOf E t) now life ov sec) := by
  obtain ⟨a, c, hv, _⟩ := h.slot t
  have HR := Lib.hid h
  have HV := Lib.hid hv
  have HS := Lib.hid hsec
  have hn0 := clipK_lo now
  have hn1 := clipK_hi now
  have hl0 := clipK_lo life
  have hl1 := clipK_hi life
  have ho0 := clipK_lo ov
  have ho1 := clipK_hi ov
  have HID := Lib.hid (rotId_len (keysOf E t) (by unfold keysOf; rw [List.length_map]; exact hl))
  have HKL : Hid ((keysOf E t).length = (tlK E t).length) := Lib.hid (by unfold keysOf; rw [List.length_map])
  have hdl := dig_len hl
  obtain ⟨dd, hdd⟩ : ∃ dd, Lib.decDigits ((tlK E t).length + 1) = dd := ⟨_, rfl⟩
  have HDD := Lib.hid hdd
  rw [hdd] at hdl
  clear hdd
  have HRI : Hid (107 :: dd = rotId (keysOf E t)) := Lib.hid (by unfold rotId; rw [HKL.out, HDD.out])
  have hcc : addC t (keysOf E t) ⟨rotId (keysOf E t), sec, clipK now, clipK now + clipK life, 0⟩ = 0 := hc
  have HC := Lib.hid (show errC (addC t (keysOf E t) ⟨rotId (keysOf E t), sec, clipK now, clipK now + clipK life, 0⟩) = .nilIface from errC_ok hcc)
  have HCC := Lib.hid hc
  have HAL := Lib.hid (show addL t (keysOf E t) ⟨rotId (keysOf E t), sec, clipK now, clipK now + clipK life, 0⟩ = keysOf E t ++ [newK (rotK (keysOf E t) now life sec)] from if_pos hcc)
  have HP := Lib.hid (show ptrP (tlK E t) (pickE (tlK E t) (clipK now) (tlK E t).length) = .pointer none by
    rw [pickE_keys]; show ptrP (tlK E t) (signI (keysOf E t) (clipK now)) = _; rw [hs]; rfl)
  have HRL := Lib.hid (show rotL t (keysOf E t) now life ov sec = keysOf E t ++ [newK (rotK (keysOf E t) now life sec)] by
    unfold rotL; rw [if_pos hc, hs]; rfl)
  clear h hsec hv hcc hc hs
  go_enter Tryd.func10, Tryd.ntmps10
  go_wp2_with (first | (go_at_call 23; refine (clip_any _ _).mono ?_; rintro e w' ⟨rfl, rfl⟩) | (go_at_call 26; refine (signing_any B R t (clipK now) V E _ HR.out (by omega)).mono ?_; rw [HP.out]; rintro e w' ⟨rfl, q, rfl⟩; have HR1 := Lib.hid (HR.out.older (below_drewN (Below.refl _ _) q)); have HS1 := Lib.hid (HS.out.older (below_drewN (Below.refl _ _) q))) | (go_at_call 28; refine (of_any B R t V E _ HR1.out).mono ?_; rw [HV.out]; rintro e w' ⟨rfl, rfl⟩) | (go_at_call 27; refine (itoaK_any _ hl _).mono ?_; rw [HDD.out]; rintro e w' ⟨rfl, rfl⟩) | (go_at_call 8; rw [HRI.out]; refine (add_any B R t (rotId (keysOf E t)) sec (clipK now) (clipK now + clipK life) sa sc V E _ HR1.out hB HID.out (by omega) HS1.out).mono ?_; rw [HC.out]; rintro e w2 ⟨V2, E2, rfl, hd2, hst2, hpre2⟩))
  go_ret2
  refine ⟨V2, _, ?_, (RDone.same HR.out (below_drewN (Below.refl _ _) q)).trans hd2, by rw [HRL.out, ← HAL.out]; exact hst2⟩
  · rw [HCC.out]
    rfl
theorem rotate_some (B R : Nat) (t now life ov : Int) (sec : Bs) (sa : Option Addr) (sc : Nat) (V : Nat → Value) (E : Nat → List Ent) (w : World) (h : RingAt w B R V E) (hB : B ≤ w.heap.size) (hl : (tlK E t).length < 98)
    (hsec : SrcAt w (.slice sa sec.length sc) sec.length (bvals sec)) (hc : rotC t (keysOf E t) now life sec = 0) (j : Nat) (x : Ent) (hs : signI (keysOf E t) (clipK now) = some j) (hx : (tlK E t)[j]? = some x) :
    Calls Tryd.prog 10 #[ptrK R, .int .i64 t, .int .i64 now, .int .i64 life, .int .i64 ov, .slice sa sec.length sc] w fun e w' => ∃ V' E', e = .returned (.tuple #[rotIdV (rotC t (keysOf E t) now life sec) (keysOf E t), errC (rotC t (keysOf E t) now life sec)]) ∧ RDone w w' B R V V' E E' ∧ KStep E E' t (rotL t (keysOf E t) now life ov sec) := by
  obtain ⟨a, c, hv, _⟩ := h.slot t
  have HR := Lib.hid h
  have HV := Lib.hid hv
  have HS := Lib.hid hsec
  have hn0 := clipK_lo now
  have hn1 := clipK_hi now
  have hl0 := clipK_lo life
  have hl1 := clipK_hi life
  have ho0 := clipK_lo ov
  have ho1 := clipK_hi ov
  have HID := Lib.hid (rotId_len (keysOf E t) (by unfold keysOf; rw [List.length_map]; exact hl))
  have HKL : Hid ((keysOf E t).length = (tlK E t).length) := Lib.hid (by unfold keysOf; rw [List.length_map])
  have hdl := dig_len hl
  obtain ⟨dd, hdd⟩ : ∃ dd, Lib.decDigits ((tlK E t).length + 1) = dd := ⟨_, rfl⟩
  have HDD := Lib.hid hdd
  rw [hdd] at hdl
  clear hdd
  have HRI : Hid (107 :: dd = rotId (keysOf E t)) := Lib.hid (by unfold rotId; rw [HKL.out, HDD.out])
  have hcc : addC t (keysOf E t) ⟨rotId (keysOf E t), sec, clipK now, clipK now + clipK life, 0⟩ = 0 := hc
  have HC := Lib.hid (show errC (addC t (keysOf E t) ⟨rotId (keysOf E t), sec, clipK now, clipK now + clipK life, 0⟩) = .nilIface from errC_ok hcc)
  have HCC := Lib.hid hc
  have HAL := Lib.hid (show addL t (keysOf E t) ⟨rotId (keysOf E t), sec, clipK now, clipK now + clipK life, 0⟩ = keysOf E t ++ [newK (rotK (keysOf E t) now life sec)] from if_pos hcc)
  have HP := Lib.hid (show ptrP (tlK E t) (pickE (tlK E t) (clipK now) (tlK E t).length) = ptrK x.blk by
    rw [pickE_keys]; show ptrP (tlK E t) (signI (keysOf E t) (clipK now)) = _; rw [hs]; exact ptrP_at hx)
  have hkj : (keysOf E t)[j]? = some x.key := by unfold keysOf; rw [List.getElem?_map, hx]; rfl
  have HRL := Lib.hid (show rotL t (keysOf E t) now life ov sec = (keysOf E t ++ [newK (rotK (keysOf E t) now life sec)]).set j (endK (clipK now + clipK ov) x.key) by
    unfold rotL; rw [if_pos hc, hs]
    exact modify_at _ (by rw [List.getElem?_append_left (List.getElem?_eq_some_iff.1 hkj).1]; exact hkj))
  have HXJ := Lib.hid hx
  have ht : 0 ≤ t ∧ t < 16 := by
    unfold tlK at hx
    by_cases h9 : 0 ≤ t ∧ t < 16
    · exact h9
    · rw [if_neg h9] at hx; simp at hx
  have HT := Lib.hid ht
  clear h hsec hv hcc hc hs hx hkj ht
  go_enter Tryd.func10, Tryd.ntmps10
  go_wp2_with (first | (go_at_call 23; refine (clip_any _ _).mono ?_; rintro e w' ⟨rfl, rfl⟩) | (go_at_call 26; refine (signing_any B R t (clipK now) V E _ HR.out (by omega)).mono ?_; rw [HP.out]; rintro e w' ⟨rfl, q, rfl⟩; have HR1 := Lib.hid (HR.out.older (below_drewN (Below.refl _ _) q)); have HS1 := Lib.hid (HS.out.older (below_drewN (Below.refl _ _) q))) | (go_at_call 28; refine (of_any B R t V E _ HR1.out).mono ?_; rw [HV.out]; rintro e w' ⟨rfl, rfl⟩) | (go_at_call 27; refine (itoaK_any _ hl _).mono ?_; rw [HDD.out]; rintro e w' ⟨rfl, rfl⟩) | (go_at_call 8; rw [HRI.out]; refine (add_any B R t (rotId (keysOf E t)) sec (clipK now) (clipK now + clipK life) sa sc V E _ HR1.out hB HID.out (by omega) HS1.out).mono ?_; rw [HC.out]; rintro e w2 ⟨V2, E2, rfl, hd2, hst2, hpre2⟩; have HD2 := Lib.hid hd2; have HST2 := Lib.hid hst2; have HX2 := Lib.hid (hpre2 t j x HXJ.out); obtain ⟨⟨c0, c1, c2, c3, c4⟩, ⟨f0, f1, f2, f3, f4⟩, hz⟩ := (hd2.ring.found (List.mem_of_getElem? (hpre2 t j x HXJ.out))).facts; clear hd2 hst2 hpre2 c0 c1 c2 c4 f0 f1 f2 f4))
  obtain ⟨n, hn⟩ : ∃ n : Nat, t = (n : Int) := ⟨t.toNat, by have := HT.out; omega⟩
  have hn16 : n < 16 := by have := HT.out; omega
  have hx2 : (E2 n)[j]? = some x := by have h := HX2.out; rw [hn, tlK_nat E2 hn16] at h; exact h
  have hs := rdone_set (j := 3) (u := .int .i64 (min x.key.til (clipK now + clipK ov))) (y := ⟨x.blk, x.sv, endK (clipK now + clipK ov) x.key⟩) HD2.out.ring hn16 hx2 rfl rfl rfl rfl
  go_ret2
  refine ⟨V2, _, ?_, ((RDone.same HR.out (below_drewN (Below.refl _ _) q)).trans HD2.out).trans hs, fun s => ?_⟩
  · rw [HCC.out]
    rfl
  · rw [keysOf_upd hn16, HRL.out, ← HAL.out]
    by_cases e' : s = t
    · have hst := HST2.out t
      rw [if_pos rfl] at hst
      rw [if_pos e', if_pos (e'.trans hn), ← hst, List.map_set]
      unfold keysOf
      rw [hn, tlK_nat E2 hn16]
    · rw [if_neg e', if_neg (fun h => e' (h.trans hn.symm))]
      have hst := HST2.out s
      rw [if_neg e'] at hst
      exact hst
theorem rotate_any (B R : Nat) (t now life ov : Int) (sec : Bs) (sa : Option Addr) (sc : Nat) (V : Nat → Value) (E : Nat → List Ent) (w : World) (h : RingAt w B R V E) (hB : B ≤ w.heap.size) (hl : (tlK E t).length < 98)
    (hsec : SrcAt w (.slice sa sec.length sc) sec.length (bvals sec)) :
    Calls Tryd.prog 10 #[ptrK R, .int .i64 t, .int .i64 now, .int .i64 life, .int .i64 ov, .slice sa sec.length sc] w fun e w' => ∃ V' E', e = .returned (.tuple #[rotIdV (rotC t (keysOf E t) now life sec) (keysOf E t), errC (rotC t (keysOf E t) now life sec)]) ∧ RDone w w' B R V V' E E' ∧ KStep E E' t (rotL t (keysOf E t) now life ov sec) := by
  by_cases hc : rotC t (keysOf E t) now life sec = 0
  · cases hs : signI (keysOf E t) (clipK now) with
    | none => exact rotate_none B R t now life ov sec sa sc V E w h hB hl hsec hc hs
    | some j =>
      obtain ⟨_, o, ho, _⟩ := pickI_lt hs
      unfold keysOf at ho
      rw [List.getElem?_map] at ho
      obtain ⟨x, hx, _⟩ := Option.map_eq_some_iff.1 ho
      exact rotate_some B R t now life ov sec sa sc V E w h hB hl hsec hc j x hs hx
  · exact rotate_bad B R t now life ov sec sa sc V E w h hB hl hsec hc
end Kr
end Go.Proofs.YtbpbopjlcidefaaDoor
