/- Contracts: the reference's decimal text; the reference of the keyring: Rotate. Conditions: at most 97 keys. -/
import Derived.Test.YtbpbopjlcidefaaDoorKeyT
namespace Go.Proofs.YtbpbopjlcidefaaDoor
open Go.RowKit Pl Ad
attribute [local go_sem] ba_get ba_append ba_extract_end ba_extract_zero ba_extract conv_one
set_option maxRecDepth 100000
set_option maxHeartbeats 4000000
set_option linter.unusedVariables false
set_option linter.unusedSimpArgs false
namespace Kr
theorem decDigits_le (n : Nat) : (Lib.decDigits n).length ≤ n + 1 := by
  induction n using Nat.strongRecOn with
  | _ n ih =>
    rw [Lib.decDigits]
    split
    · simp
    · rename_i h
      rw [List.length_append]
      have := ih (n / 10) (by omega)
      simp only [List.length_cons, List.length_nil]
      omega
theorem text09_any (n : Nat) : ∀ (w : World), n < 9223372036854775808 → Calls Tryd.prog 34 #[.int .i64 (n : Int)] w fun e w' => e = .returned (.string ⟨(Lib.decDigits n).toArray⟩) ∧ Below w.heap.size w w' := by
  induction n using Nat.strongRecOn with
  | _ n ih =>
    intro w hn
    by_cases h : n < 10
    · have HD := Lib.hid (show Lib.decDigits n = [UInt8.ofNat (48 + n % 10)] by rw [Lib.decDigits, dif_pos h, Nat.mod_eq_of_lt h])
      have h2 : (n : Int) < 10 := by omega
      have h3 : (0 : Int) ≤ (n : Int) := by omega
      clear ih
      go_enter Tryd.func34, Tryd.ntmps34
      go_wp2
      go_ret
      exact ⟨ret_str HD.out.symm, (Below.refl _ _).alloc (Nat.le_refl _) _⟩
    · have HD := Lib.hid (show Lib.decDigits n = Lib.decDigits (n / 10) ++ [UInt8.ofNat (48 + n % 10)] by rw [Lib.decDigits, dif_neg h])
      have h2 : ¬ (n : Int) < 10 := by omega
      have h3 : (0 : Int) ≤ (n : Int) := by omega
      have hdl := decDigits_le (n / 10)
      have hdm : n / 10 + 1 ≤ 922337203685477582 := by omega
      obtain ⟨dd, hdd⟩ : ∃ dd, Lib.decDigits (n / 10) = dd := ⟨_, rfl⟩
      have HDD := Lib.hid hdd
      rw [hdd] at hdl
      have hdl2 : dd.length ≤ 922337203685477582 := by omega
      have HI := Lib.hid (fun w1 => ih (n / 10) (by omega) w1 (by omega))
      have HQ : Hid (((n / 10 : Nat) : Int) = (n : Int) / 10) := Lib.hid (by omega)
      clear ih hdd hdl hdm h
      go_enter Tryd.func34, Tryd.ntmps34
      go_wp2_with (go_at_call 34; rw [← HQ.out]; refine (HI.out _).mono ?_; rw [HDD.out]; rintro e w2 ⟨rfl, hb2⟩)
      go_ret
      exact ⟨ret_str (by rw [HD.out, HDD.out]; simp [UInt8.ofNat_add]), ((Below.refl _ _).alloc (Nat.le_refl _) _).trans (hb2.mono (by simp))⟩
theorem refAt_frz {w : World} {B b o n c : Nat} {ml : KL} (h : RefAt w B (.slice (some ⟨b, o, none⟩) n c) ml) (i : Nat) : w.frozen? ⟨b, o + i, none⟩ = false := by
  rcases h.2 with ⟨h0, _⟩ | ⟨g, o', cap, cur, h0, _, hg, _⟩
  · cases h0
  · cases h0; exact Bx.frz hg _
theorem refRotate_bad (B : Nat) (a : Option Addr) (c : Nat) (ml : KL) (t now life ov : Int) (sec : Bs) (w : World) (h : RefAt w B (.slice a ml.length c) ml) (hB : B ≤ w.heap.size) (hl : ml.length < 98) (hc : ¬ rotC t (per ml t) now life sec = 0) :
    Calls Tryd.prog 20 #[.slice a ml.length c, .int .i64 t, .int .i64 now, .int .i64 life, .int .i64 ov, .string ⟨sec.toArray⟩] w fun e w' => ∃ v', e = .returned (.tuple #[v', rotIdV (rotC t (per ml t) now life sec) (per ml t), .int .i64 (rotC t (per ml t) now life sec)]) ∧ RefDone w w' B v' (rotR ml t now life ov sec) := by
  have HR := Lib.hid h
  obtain ⟨a', c', e', hk⟩ := h.slot
  cases e'
  have HK := Lib.hid hk
  have hn0 : 0 ≤ max 0 (min now 1099511627776) := clipK_lo now
  have hn1 : max 0 (min now 1099511627776) ≤ 1099511627776 := clipK_hi now
  have hl0 : 0 ≤ max 0 (min life 1099511627776) := clipK_lo life
  have hl1 : max 0 (min life 1099511627776) ≤ 1099511627776 := clipK_hi life
  have ho0 : 0 ≤ max 0 (min ov 1099511627776) := clipK_lo ov
  have ho1 : max 0 (min ov 1099511627776) ≤ 1099511627776 := clipK_hi ov
  have hpl := per_len ml t
  have HID := Lib.hid (rotId_len (per ml t) (by omega))
  have hdl := dig_len (n := (per ml t).length) (by omega)
  obtain ⟨dd, hdd⟩ : ∃ dd, Lib.decDigits ((per ml t).length + 1) = dd := ⟨_, rfl⟩
  have HDD := Lib.hid hdd
  rw [hdd] at hdl
  have HRI : Hid (107 :: dd = rotId (per ml t)) := Lib.hid (by unfold rotId; rw [HDD.out])
  have HCE := Lib.hid (cnt_end ml t)
  obtain ⟨cc, hcc⟩ : ∃ cc, rotC t (per ml t) now life sec = cc := ⟨_, rfl⟩
  have hc0 : (cc != 0) = true := by rw [hcc] at hc; simpa using hc
  have HC := Lib.hid (show addC t (per ml t) ⟨rotId (per ml t), sec, clipK now, clipK now + clipK life, 0⟩ = cc from hcc)
  have HCC := Lib.hid hcc
  have HN := Lib.hid hc
  obtain ⟨si, hsi⟩ : ∃ si, idxV (signR ml t (clipK now)) = .int .i64 si := by
    cases signR ml t (clipK now) with
    | none => exact ⟨_, rfl⟩
    | some j => exact ⟨_, rfl⟩
  have HS := Lib.hid hsi
  clear h hk hdd hcc hc hsi
  go_enter Tryd.func20, Tryd.ntmps20
  go_wp2_with (go_at_call 33; refine (refClip_any _ 0 1099511627776 _).mono ?_; rintro e w' ⟨rfl, rfl⟩)
  go_loop [15, 29] (fun x i => ∃ (k m : Nat), k ≤ ml.length ∧ i = .int .i64 k ∧ x = .int .i64 ((m : Int) + 1) ∧ m ≤ k ∧ Hid (m = cntK ml t k)) (fun _ i => ml.length - (intOf i).toNat)
  case atStart => exact ⟨0, 0, Nat.zero_le _, rfl, rfl, Nat.le_refl _, Lib.hid rfl⟩
  case round =>
    obtain ⟨k, m, hk, rfl, rfl, hm, H⟩ := hrel
    by_cases hlt : k < ml.length
    · obtain ⟨e, he⟩ : ∃ e, ml[k]? = some e := ⟨_, List.getElem?_eq_getElem hlt⟩
      obtain ⟨b, o, rfl, _, _, hrow⟩ := HK.out k e he
      have c0 := hrow.c0
      have HE := Lib.hid he
      clear he hrow
      obtain ⟨s, key⟩ := e
      simp only at c0
      cases h1 : (s == t) with
      | true =>
        have HT := Lib.hid (beq_iff_eq.1 h1)
        have HC := Lib.hid (show m + 1 = cntK ml t (k + 1) by rw [cnt_yes (k := key) (by rw [HE.out, HT.out]), ← H.out])
        go_wp2
        go_round
        case rel => exact ⟨k + 1, m + 1, by omega, by go_num, by go_num, by omega, Lib.hid HC.out⟩
        case measure => simp [intOf]; omega
      | false =>
        have HC := Lib.hid (show m = cntK ml t (k + 1) by rw [cnt_no (k := key) HE.out (fun e => by subst e; simp at h1), ← H.out])
        go_wp2
        go_round
        case rel => exact ⟨k + 1, m, by omega, by go_num, rfl, by omega, Lib.hid HC.out⟩
        case measure => simp [intOf]; omega
    · have hm2 : m = (per ml t).length := by rw [H.out, show k = ml.length by omega]; exact HCE.out
      subst hm2
      go_wp2_with (first
        | (go_at_call 34; refine (text09_any ((per ml t).length + 1) _ (by omega)).mono ?_; rw [HDD.out]; rintro e w2 ⟨rfl, hb2⟩; have HR2 := Lib.hid (HR.out.older hb2); have HB2 := Lib.hid hb2; have hz2 := hb2.size; clear hb2)
        | (go_at_call 35; refine (refSigning_any B _ ml t (clipK now) _ HR2.out (by omega)).mono ?_; rw [HS.out]; rintro e w3 ⟨rfl, hb3⟩; have HR3 := Lib.hid (HR2.out.older hb3); have HB3 := Lib.hid (HB2.out.trans (hb3.mono hz2)); have hz3 := hb3.size; clear hb3)
        | (go_at_call 17; rw [HRI.out]; refine (refAdd_any B _ ml t (rotId (per ml t)) sec (clipK now) (clipK now + clipK life) _ HR3.out (by omega) HID.out (by omega)).mono ?_; rw [HC.out]; rintro e w4 ⟨v4, rfl, hd4, hd5⟩))
      go_ret3
      have HN2 : ¬ cc = 0 := by rw [← HCC.out]; exact HN.out
      refine ⟨.slice a ml.length c, ?_, ?_, HB3.out.trans (hd4.bel.mono (by omega))⟩
      · rw [HCC.out, show rotIdV cc (per ml t) = .string ⟨#[]⟩ from if_neg HN2]; rfl
      · unfold rotR
        rw [if_neg HN.out]
        exact HR3.out.older (hd4.bel)
theorem refRotate_none (B : Nat) (a : Option Addr) (c : Nat) (ml : KL) (t now life ov : Int) (sec : Bs) (w : World) (h : RefAt w B (.slice a ml.length c) ml) (hB : B ≤ w.heap.size) (hl : ml.length < 98) (hc : rotC t (per ml t) now life sec = 0) (hs : signR ml t (clipK now) = none) :
    Calls Tryd.prog 20 #[.slice a ml.length c, .int .i64 t, .int .i64 now, .int .i64 life, .int .i64 ov, .string ⟨sec.toArray⟩] w fun e w' => ∃ v', e = .returned (.tuple #[v', rotIdV (rotC t (per ml t) now life sec) (per ml t), .int .i64 (rotC t (per ml t) now life sec)]) ∧ RefDone w w' B v' (rotR ml t now life ov sec) := by
  have HR := Lib.hid h
  obtain ⟨a', c', e', hk⟩ := h.slot
  cases e'
  have HK := Lib.hid hk
  have hn0 : 0 ≤ max 0 (min now 1099511627776) := clipK_lo now
  have hn1 : max 0 (min now 1099511627776) ≤ 1099511627776 := clipK_hi now
  have hl0 : 0 ≤ max 0 (min life 1099511627776) := clipK_lo life
  have hl1 : max 0 (min life 1099511627776) ≤ 1099511627776 := clipK_hi life
  have ho0 : 0 ≤ max 0 (min ov 1099511627776) := clipK_lo ov
  have ho1 : max 0 (min ov 1099511627776) ≤ 1099511627776 := clipK_hi ov
  have hpl := per_len ml t
  have HID := Lib.hid (rotId_len (per ml t) (by omega))
  have hdl := dig_len (n := (per ml t).length) (by omega)
  obtain ⟨dd, hdd⟩ : ∃ dd, Lib.decDigits ((per ml t).length + 1) = dd := ⟨_, rfl⟩
  have HDD := Lib.hid hdd
  rw [hdd] at hdl
  have HRI : Hid (107 :: dd = rotId (per ml t)) := Lib.hid (by unfold rotId; rw [HDD.out])
  have HCE := Lib.hid (cnt_end ml t)
  have hcc : addC t (per ml t) ⟨rotId (per ml t), sec, clipK now, clipK now + clipK life, 0⟩ = 0 := hc
  have HC := Lib.hid hcc
  have HCC := Lib.hid hc
  have HAL := Lib.hid (show addR ml t ⟨rotId (per ml t), sec, clipK now, clipK now + clipK life, 0⟩ = ml ++ [(t, newK (rotK (per ml t) now life sec))] from if_pos hcc)
  have HS := Lib.hid (show idxV (signR ml t (clipK now)) = .int .i64 (-1) by rw [hs]; rfl)
  have HRL := Lib.hid (show rotR ml t now life ov sec = ml ++ [(t, newK (rotK (per ml t) now life sec))] by
    unfold rotR; rw [if_pos hc, hs])
  clear h hk hdd hcc hc hs
  go_enter Tryd.func20, Tryd.ntmps20
  go_wp2_with (go_at_call 33; refine (refClip_any _ 0 1099511627776 _).mono ?_; rintro e w' ⟨rfl, rfl⟩)
  go_loop [15, 29] (fun x i => ∃ (k m : Nat), k ≤ ml.length ∧ i = .int .i64 k ∧ x = .int .i64 ((m : Int) + 1) ∧ m ≤ k ∧ Hid (m = cntK ml t k)) (fun _ i => ml.length - (intOf i).toNat)
  case atStart => exact ⟨0, 0, Nat.zero_le _, rfl, rfl, Nat.le_refl _, Lib.hid rfl⟩
  case round =>
    obtain ⟨k, m, hk, rfl, rfl, hm, H⟩ := hrel
    by_cases hlt : k < ml.length
    · obtain ⟨e, he⟩ : ∃ e, ml[k]? = some e := ⟨_, List.getElem?_eq_getElem hlt⟩
      obtain ⟨b, o, rfl, _, _, hrow⟩ := HK.out k e he
      have c0 := hrow.c0
      have HE := Lib.hid he
      clear he hrow
      obtain ⟨s, key⟩ := e
      simp only at c0
      cases h1 : (s == t) with
      | true =>
        have HT := Lib.hid (beq_iff_eq.1 h1)
        have HC := Lib.hid (show m + 1 = cntK ml t (k + 1) by rw [cnt_yes (k := key) (by rw [HE.out, HT.out]), ← H.out])
        go_wp2
        go_round
        case rel => exact ⟨k + 1, m + 1, by omega, by go_num, by go_num, by omega, Lib.hid HC.out⟩
        case measure => simp [intOf]; omega
      | false =>
        have HC := Lib.hid (show m = cntK ml t (k + 1) by rw [cnt_no (k := key) HE.out (fun e => by subst e; simp at h1), ← H.out])
        go_wp2
        go_round
        case rel => exact ⟨k + 1, m, by omega, by go_num, rfl, by omega, Lib.hid HC.out⟩
        case measure => simp [intOf]; omega
    · have hm2 : m = (per ml t).length := by rw [H.out, show k = ml.length by omega]; exact HCE.out
      subst hm2
      go_wp2_with (first
        | (go_at_call 34; refine (text09_any ((per ml t).length + 1) _ (by omega)).mono ?_; rw [HDD.out]; rintro e w2 ⟨rfl, hb2⟩; have HR2 := Lib.hid (HR.out.older hb2); have HB2 := Lib.hid hb2; have hz2 := hb2.size; clear hb2)
        | (go_at_call 35; refine (refSigning_any B _ ml t (clipK now) _ HR2.out (by omega)).mono ?_; rw [HS.out]; rintro e w3 ⟨rfl, hb3⟩; have HR3 := Lib.hid (HR2.out.older hb3); have HB3 := Lib.hid (HB2.out.trans (hb3.mono hz2)); have hz3 := hb3.size; clear hb3)
        | (go_at_call 17; rw [HRI.out]; refine (refAdd_any B _ ml t (rotId (per ml t)) sec (clipK now) (clipK now + clipK life) _ HR3.out (by omega) HID.out (by omega)).mono ?_; rw [HC.out]; rintro e w4 ⟨v4, rfl, hd4, hd5⟩))
      go_ret3
      refine ⟨v4, ?_, ?_, HB3.out.trans (hd4.bel.mono (by omega))⟩
      · rw [HCC.out]; rfl
      · rw [HRL.out, ← HAL.out]
        exact hd4.ref
theorem refRotate_some (B : Nat) (a : Option Addr) (c : Nat) (ml : KL) (t now life ov : Int) (sec : Bs) (w : World) (h : RefAt w B (.slice a ml.length c) ml) (hB : B ≤ w.heap.size) (hl : ml.length < 98) (hc : rotC t (per ml t) now life sec = 0) (j : Nat) (hs : signR ml t (clipK now) = some j) :
    Calls Tryd.prog 20 #[.slice a ml.length c, .int .i64 t, .int .i64 now, .int .i64 life, .int .i64 ov, .string ⟨sec.toArray⟩] w fun e w' => ∃ v', e = .returned (.tuple #[v', rotIdV (rotC t (per ml t) now life sec) (per ml t), .int .i64 (rotC t (per ml t) now life sec)]) ∧ RefDone w w' B v' (rotR ml t now life ov sec) := by
  have HR := Lib.hid h
  obtain ⟨a', c', e', hk⟩ := h.slot
  cases e'
  have HK := Lib.hid hk
  have hn0 : 0 ≤ max 0 (min now 1099511627776) := clipK_lo now
  have hn1 : max 0 (min now 1099511627776) ≤ 1099511627776 := clipK_hi now
  have hl0 : 0 ≤ max 0 (min life 1099511627776) := clipK_lo life
  have hl1 : max 0 (min life 1099511627776) ≤ 1099511627776 := clipK_hi life
  have ho0 : 0 ≤ max 0 (min ov 1099511627776) := clipK_lo ov
  have ho1 : max 0 (min ov 1099511627776) ≤ 1099511627776 := clipK_hi ov
  have hpl := per_len ml t
  have HID := Lib.hid (rotId_len (per ml t) (by omega))
  have hdl := dig_len (n := (per ml t).length) (by omega)
  obtain ⟨dd, hdd⟩ : ∃ dd, Lib.decDigits ((per ml t).length + 1) = dd := ⟨_, rfl⟩
  have HDD := Lib.hid hdd
  rw [hdd] at hdl
  have HRI : Hid (107 :: dd = rotId (per ml t)) := Lib.hid (by unfold rotId; rw [HDD.out])
  have HCE := Lib.hid (cnt_end ml t)
  have hcc : addC t (per ml t) ⟨rotId (per ml t), sec, clipK now, clipK now + clipK life, 0⟩ = 0 := hc
  have HC := Lib.hid hcc
  have HCC := Lib.hid hc
  have HAL := Lib.hid (show addR ml t ⟨rotId (per ml t), sec, clipK now, clipK now + clipK life, 0⟩ = ml ++ [(t, newK (rotK (per ml t) now life sec))] from if_pos hcc)
  have HS := Lib.hid (show idxV (signR ml t (clipK now)) = .int .i64 j by rw [hs]; rfl)
  obtain ⟨key, hj, _⟩ := signR_some hs
  have hjl := (List.getElem?_eq_some_iff.1 hj).1
  have HJ : Hid ((ml ++ [(t, newK (rotK (per ml t) now life sec))])[j]? = some (t, key)) := Lib.hid (by rw [List.getElem?_append_left hjl]; exact hj)
  have HRL := Lib.hid (show rotR ml t now life ov sec = (ml ++ [(t, newK (rotK (per ml t) now life sec))]).set j (t, endK (clipK now + clipK ov) key) by
    unfold rotR; rw [if_pos hc, hs]; exact modifyR_at _ HJ.out)
  have hj1 : (0 : Int) ≤ (j : Int) := by omega
  have hj2 : (j : Int) < ((ml.length + 1 : Nat) : Int) := by omega
  have hj3 : ¬ (j : Int) < 0 := by omega
  clear h hk hdd hcc hc hs hj
  go_enter Tryd.func20, Tryd.ntmps20
  go_wp2_with (go_at_call 33; refine (refClip_any _ 0 1099511627776 _).mono ?_; rintro e w' ⟨rfl, rfl⟩)
  go_loop [15, 29] (fun x i => ∃ (k m : Nat), k ≤ ml.length ∧ i = .int .i64 k ∧ x = .int .i64 ((m : Int) + 1) ∧ m ≤ k ∧ Hid (m = cntK ml t k)) (fun _ i => ml.length - (intOf i).toNat)
  case atStart => exact ⟨0, 0, Nat.zero_le _, rfl, rfl, Nat.le_refl _, Lib.hid rfl⟩
  case round =>
    obtain ⟨k, m, hk, rfl, rfl, hm, H⟩ := hrel
    by_cases hlt : k < ml.length
    · obtain ⟨e, he⟩ : ∃ e, ml[k]? = some e := ⟨_, List.getElem?_eq_getElem hlt⟩
      obtain ⟨b, o, rfl, _, _, hrow⟩ := HK.out k e he
      have c0 := hrow.c0
      have HE := Lib.hid he
      clear he hrow
      obtain ⟨s, key⟩ := e
      simp only at c0
      cases h1 : (s == t) with
      | true =>
        have HT := Lib.hid (beq_iff_eq.1 h1)
        have HC := Lib.hid (show m + 1 = cntK ml t (k + 1) by rw [cnt_yes (k := key) (by rw [HE.out, HT.out]), ← H.out])
        go_wp2
        go_round
        case rel => exact ⟨k + 1, m + 1, by omega, by go_num, by go_num, by omega, Lib.hid HC.out⟩
        case measure => simp [intOf]; omega
      | false =>
        have HC := Lib.hid (show m = cntK ml t (k + 1) by rw [cnt_no (k := key) HE.out (fun e => by subst e; simp at h1), ← H.out])
        go_wp2
        go_round
        case rel => exact ⟨k + 1, m, by omega, by go_num, rfl, by omega, Lib.hid HC.out⟩
        case measure => simp [intOf]; omega
    · have hm2 : m = (per ml t).length := by rw [H.out, show k = ml.length by omega]; exact HCE.out
      subst hm2
      go_wp2_with (first
        | (go_at_call 34; refine (text09_any ((per ml t).length + 1) _ (by omega)).mono ?_; rw [HDD.out]; rintro e w2 ⟨rfl, hb2⟩; have HR2 := Lib.hid (HR.out.older hb2); have HB2 := Lib.hid hb2; have hz2 := hb2.size; clear hb2)
        | (go_at_call 35; refine (refSigning_any B _ ml t (clipK now) _ HR2.out (by omega)).mono ?_; rw [HS.out]; rintro e w3 ⟨rfl, hb3⟩; have HR3 := Lib.hid (HR2.out.older hb3); have HB3 := Lib.hid (HB2.out.trans (hb3.mono hz2)); have hz3 := hb3.size; clear hb3)
        | (go_at_call 17; rw [HRI.out]; refine (refAdd_any B _ ml t (rotId (per ml t)) sec (clipK now) (clipK now + clipK life) _ HR3.out (by omega) HID.out (by omega)).mono ?_; rw [HC.out]; rintro e w4 ⟨v4, rfl, hd4, hd5⟩; have HD4 := Lib.hid hd4; have HD5 := Lib.hid (hd5 rfl); have HR4 := Lib.hid (show RefAt w4 B v4 (ml ++ [(t, newK (rotK (per ml t) now life sec))]) by rw [← HAL.out]; exact hd4.ref); obtain ⟨b, o, q, hv', hq1, hq2, hq3, hq4, _⟩ := OwnWin.cells HR4.out (by simp); obtain ⟨a', c', e', hrow⟩ := HR4.out.slot; rw [List.length_append] at hv' e' hq1; subst hv'; cases e'; obtain ⟨b', o', e', _, _, ⟨c0, c1, c2, c3, c4, c5⟩⟩ := hrow j _ HJ.out; cases e'; have f4 := refAt_frz HR4.out (j * 6 + 4); rw [← Nat.add_assoc] at f4; simp only at c4; clear hd4 hd5 hrow c0 c1 c2 c3 c5))
      go_ret3
      refine ⟨.slice (some ⟨b, o, none⟩) (ml ++ [(t, newK (rotK (per ml t) now life sec))]).length q, ?_, ?_, (HB3.out.trans (HD4.out.bel.mono (by omega))).setCell (p := ⟨b, _, none⟩) (by have h9 := OwnWin.lt HD5.out b rfl; have h8 := HB3.out.size; show w.heap.size ≤ b; omega) _⟩
      · rw [HCC.out, List.length_append]; rfl
      · rw [HRL.out]
        have h9 := HR4.out
        rw [show (.slice (some ⟨b, o, none⟩) (ml.length + [(t, newK (rotK (per ml t) now life sec))].length) q : Value) = .slice (some ⟨b, o, none⟩) (ml ++ [(t, newK (rotK (per ml t) now life sec))]).length q by rw [List.length_append]] at h9
        exact refAt_put h9 HJ.out (by decide) rfl
theorem refRotate_any (B : Nat) (v : Value) (ml : KL) (t now life ov : Int) (sec : Bs) (w : World) (h : RefAt w B v ml) (hB : B ≤ w.heap.size) (hl : ml.length < 98) :
    Calls Tryd.prog 20 #[v, .int .i64 t, .int .i64 now, .int .i64 life, .int .i64 ov, .string ⟨sec.toArray⟩] w fun e w' => ∃ v', e = .returned (.tuple #[v', rotIdV (rotC t (per ml t) now life sec) (per ml t), .int .i64 (rotC t (per ml t) now life sec)]) ∧ RefDone w w' B v' (rotR ml t now life ov sec) := by
  obtain ⟨a, c, rfl, _⟩ := h.slot
  by_cases hc : rotC t (per ml t) now life sec = 0
  · cases hs : signR ml t (clipK now) with
    | none => exact refRotate_none B a c ml t now life ov sec w h hB hl hc hs
    | some j => exact refRotate_some B a c ml t now life ov sec w h hB hl hc j hs
  · exact refRotate_bad B a c ml t now life ov sec w h hB hl hc
end Kr
end Go.Proofs.YtbpbopjlcidefaaDoor
