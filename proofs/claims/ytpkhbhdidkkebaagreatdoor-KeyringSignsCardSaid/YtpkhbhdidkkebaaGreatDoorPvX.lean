/- Contracts and plain facts that the statement's proof leans on (texts joined). No condition beyond those that each names. -/
import Derived.Test.YtpkhbhdidkkebaaGreatDoorPvU
section
namespace Go.Proofs.YtpkhbhdidkkebaaGreatDoor
open Go.RowKit Pl Ad
set_option maxRecDepth 100000
set_option maxHeartbeats 4000000
set_option linter.unusedVariables false
set_option linter.unusedSimpArgs false
namespace Dg
open Kr
theorem hmac_any (ka : Option Addr) (kc : Nat) (key : Bs) (ta : Option Addr) (tc : Nat) (t : Bs) (w : World) (hk : SrcAt w (.slice ka key.length kc) key.length (bvals key)) (ht : SrcAt w (.slice ta t.length tc) t.length (bvals t)) (hc : ConstAt w) (hkl : key.length ≤ 536870912) (htl : t.length ≤ 536870912) :
 Calls Tryz.prog 21 #[.slice ka key.length kc, .slice ta t.length tc] w fun e w' => ∃ ua uc, e = .returned (.slice ua 32 uc) ∧ OwnWin w' w.heap.size 5 1 (.slice ua 32 uc) 32 (bvals (hmacM mixM key t)) ∧ Below w.heap.size w w' := by
 have hg := hc.lt
 have hb0 := (Below.refl w.heap.size w).alloc (Nat.le_refl _) (.cells (hashC initS (.slice none 0 0) 0) 157)
 have HB0 := Lib.hid hb0
 have HC0 := Lib.hid (hc.below hb0)
 have HK := Lib.hid hk
 have HT := Lib.hid ht
 obtain ⟨ki, hki⟩ : ∃ x, padK (keyM mixM key) 54 = x := ⟨_, rfl⟩
 obtain ⟨ko, hko⟩ : ∃ x, padK (keyM mixM key) 92 = x := ⟨_, rfl⟩
 have hkil : ki.length = 64 := by rw [← hki]; unfold padK; rw [List.length_map, List.length_append, List.length_replicate]; have := keyM_len mixM key; omega
 have hkol : ko.length = 64 := by rw [← hko]; unfold padK; rw [List.length_map, List.length_append, List.length_replicate]; have := keyM_len mixM key; omega
 have HKI := Lib.hid hki
 have HKO := Lib.hid hko
 have HKIL := Lib.hid hkil
 have HKOL := Lib.hid hkol
 obtain ⟨s1, l1, hr1⟩ : ∃ s l, runL mixM initS ([] ++ ki) = (s, l) := ⟨_, _, rfl⟩
 obtain ⟨s2, l2, hr2⟩ : ∃ s l, runL mixM s1 (l1 ++ t) = (s, l) := ⟨_, _, rfl⟩
 have hl1 : l1.length < 64 := by have h9 := runL_rest (mx := mixM) _ initS ([] ++ ki) (Nat.le_refl _); rw [hr1] at h9; simp only at h9; omega
 have hrun : runL mixM initS (ki ++ t) = (s2, l2) := by rw [runL_append _ _ _ _ (Nat.le_refl _), show runL mixM initS ki = (s1, l1) from hr1, hr2]
 have HR1 := Lib.hid hr1
 have HR2 := Lib.hid hr2
 have HLEN := Lib.hid (show l2.length = (0 + 64 + t.length) % 64 by have h9 := runL_rest (mx := mixM) _ initS (ki ++ t) (Nat.le_refl _); rw [hrun, List.length_append, hkil] at h9; simp only at h9; rw [Nat.zero_add]; exact h9)
 have HSUM := Lib.hid (show outM (runL mixM s2 (l2 ++ tailM (0 + 64 + t.length))).1 = sumM mixM (ki ++ t) by
  have h9 := runL_append (mx := mixM) (tailM (ki ++ t).length) _ initS (ki ++ t) (Nat.le_refl _)
  rw [hrun] at h9
  unfold sumM
  rw [h9, Nat.zero_add, List.length_append, hkil])
 have HFIN := Lib.hid (show sumM mixM (ko ++ sumM mixM (ki ++ t)) = hmacM mixM key t by unfold hmacM; rw [hki, hko])
 obtain ⟨sm, hsm⟩ : ∃ x, sumM mixM (ki ++ t) = x := ⟨_, rfl⟩
 have hsml : sm.length = 32 := by rw [← hsm, sumM_len]
 rw [hsm] at HSUM HFIN
 clear hki hko hkil hkol hr1 hr2 hrun hsm hk ht hc hb0
 go_enter Tryz.func21, Tryz.ntmps21
 go_wp2_with fail
 refine (hashNew_any _).mono ?_
 rintro e w1 ⟨rfl, rfl⟩
 go_wp2_with fail
 go_at_call 61
 refine (padded_any ka kc key 54 (.inl rfl) _ (HK.out.older HB0.out) HC0.out (by omega)).mono ?_
 rw [HKI.out]
 rintro e w2 ⟨pa, pc, rfl, hp2, hb2⟩
 have HP2 := Lib.hid hp2
 have HH2 := Lib.hid ((hashAt_new w).older hb2)
 have HB2 := Lib.hid (HB0.out.trans (hb2.mono HB0.out.size))
 have HC2 := Lib.hid (HC0.out.below hb2)
 clear hp2 hb2
 have hw2 := write_any w.heap.size w.heap.size initS (.slice none 0 0) (.slice pa 64 pc) [] ki 0 w2 HH2.out HB2.out.size hg (fun x => by rw [HKIL.out]; exact SrcAt.of (own_setB HP2.out HH2.out.box (by decide))) ⟨pa, pc, by rw [HKIL.out]⟩ HC2.out (by simp) (by rw [HKIL.out]; omega) (by omega)
 rw [HR1.out, HKIL.out] at hw2
 have HW2 := Lib.hid hw2
 clear hw2
 go_wp2_with fail
 go_at_call 60
 refine HW2.out.mono ?_
 rintro e w3 ⟨rfl, v3, hh3, hb3⟩
 have HH3 := Lib.hid hh3
 have HB3 := Lib.hid (HB2.out.trans hb3)
 have HC3 := Lib.hid (HC2.out.belowB hb3 hg)
 clear hh3 hb3
 have hw3 := write_any w.heap.size w.heap.size s1 v3 (.slice ta t.length tc) l1 t (0 + 64) w3 HH3.out HB3.out.size hg (fun x => HT.out.older (HB3.out.setCell (p := ⟨w.heap.size, 9, none⟩) (Nat.le_refl _) x)) ⟨ta, tc, rfl⟩ HC3.out (by omega) (by omega) (by omega)
 rw [HR2.out] at hw3
 have HW3 := Lib.hid hw3
 clear hw3
 go_wp2_with fail
 go_at_call 60
 refine HW3.out.mono ?_
 rintro e w4 ⟨rfl, v4, hh4, hb4⟩
 have HH4 := Lib.hid hh4
 have HB4 := Lib.hid (HB3.out.trans hb4)
 have HC4 := Lib.hid (HC3.out.belowB hb4 hg)
 clear hh4 hb4
 go_wp2_with (first
  | (go_at_call 61; refine (padded_any ka kc key 92 (.inr rfl) w4 (HK.out.older HB4.out) HC4.out (by omega)).mono ?_; rw [HKO.out]; rintro e w5 ⟨qa, qc, rfl, hp5, hb5⟩; have HP5 := Lib.hid (hp5.mono (C := w.heap.size) (fun k hk => by have := (hp5.lt k hk).1; have := HB4.out.size; omega)); have HH5 := Lib.hid (HH4.out.older hb5); have HB5 := Lib.hid (HB4.out.trans (hb5.mono HB4.out.size)); have HC5 := Lib.hid (HC4.out.below hb5); clear hp5 hb5)
  | (go_at_call 63; refine (hsum_any w.heap.size w.heap.size s2 v4 l2 (0 + 64 + t.length) w5 HH5.out HC5.out HLEN.out (by omega)).mono ?_; rw [HSUM.out]; rintro e w6 ⟨sa, sc, rfl, hu6, hb6⟩; have HU6 := Lib.hid hu6; have HP6 := Lib.hid (HP5.out.older hb6); have HB6 := Lib.hid (HB5.out.trans (hb6.mono HB5.out.size)); have HC6 := Lib.hid (HC5.out.below hb6); clear hu6 hb6)
  | (at_builtin; refine wpList_appw tyBytes rfl _ _ rfl w.heap.size (.slice qa 64 qc) 64 (bvals ko) rfl HP6.out HB6.out.size (.slice sa 32 sc) 32 (bvals sm) rfl (SrcAt.of HU6.out) (by rw [bvals_len, hsml]) (bvals_one _) (by omega) ?_; intro v' w7 hown7 hgrow7 hlies7; rw [bvals_append] at hown7; obtain ⟨na, nc, rfl, hnc⟩ := hown7.form; have HO7 := Lib.hid hown7; have HB7 := Lib.hid (belowK_grown HB6.out hgrow7 HB6.out.size (fun q hq => (HP6.out.lt q hq).1)); have HC7 := Lib.hid (HC6.out.belowB (belowK_grown (Below.refl w.heap.size w6) hgrow7 HB6.out.size (fun q hq => (HP6.out.lt q hq).1)) hg); have HLN := Lib.hid (show (ko ++ sm).length = 96 by rw [List.length_append, HKOL.out, hsml]); have HSR := Lib.hid (show SrcAt w7 (.slice na (ko ++ sm).length nc) (ko ++ sm).length (bvals (ko ++ sm)) by rw [HLN.out]; exact SrcAt.of HO7.out); clear hown7 hgrow7 hlies7)
  | (go_at_call 62; have h9 := dsum_any na nc (ko ++ sm) w7 HSR.out HC7.out (by rw [HLN.out]; omega); rw [HLN.out] at h9; refine h9.mono ?_; rw [HFIN.out]; rintro e w8 ⟨ua, uc, rfl, hu8, hb8⟩; have HU8 := Lib.hid hu8; have HB8 := Lib.hid (HB7.out.trans (hb8.mono HB7.out.size)); clear hu8 hb8 h9))
 go_ret
 exact ⟨ua, uc, rfl, HU8.out.mono (fun k hk => by have := (HU8.out.lt k hk).1; have := HB7.out.size; omega), HB8.out⟩
end Dg
end Go.Proofs.YtpkhbhdidkkebaaGreatDoor
end

