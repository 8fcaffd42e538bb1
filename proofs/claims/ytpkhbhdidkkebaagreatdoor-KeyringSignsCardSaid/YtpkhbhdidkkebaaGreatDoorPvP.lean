/- Contracts and plain facts that the statement's proof leans on (texts joined). No condition beyond those that each names. -/
import Derived.Deep.RegionLaw
import Derived.Deep.RegionHeld3
import Derived.Test.YtpkhbhdidkkebaaGreatDoorPvO
section
namespace Go.Proofs.YtpkhbhdidkkebaaGreatDoor
open Go.RowKit Pl Ad
attribute [local go_sem] ba_get ba_append ba_extract_end ba_extract_zero ba_extract
set_option maxRecDepth 100000
set_option maxHeartbeats 4000000
set_option linter.unusedVariables false
set_option linter.unusedSimpArgs false
namespace Kr
/-- A tenant's keys. -/
def keysOf (E : Nat → List Ent) (t : Int) : List KeyM := (tlK E t).map Ent.key
theorem hasId_find {l : List Ent} {id : Bs} : hasId (l.map Ent.key) id = (findE l id).isSome := by
 unfold hasId findE
 rw [List.any_map, List.isSome_find?]
 rfl
theorem addC_name {t : Int} {l : List KeyM} {k : KeyM} (h : idOk k.id = false) : addC t l k = 8 := by unfold addC; rw [if_pos h]
theorem addC_rng {t : Int} {l : List KeyM} {k : KeyM} (h : idOk k.id = true) (h2 : rngK t k = true) : addC t l k = 1 := by unfold addC; rw [if_neg (by simp [h]), if_pos h2]
theorem addC_ord {t : Int} {l : List KeyM} {k : KeyM} (h : idOk k.id = true) (h2 : rngK t k = false) (h3 : k.til ≤ k.frm) : addC t l k = 7 := by unfold addC; rw [if_neg (by simp [h]), if_neg (by simp [h2]), if_pos h3]
theorem addC_has {t : Int} {l : List KeyM} {k : KeyM} (h : idOk k.id = true) (h2 : rngK t k = false) (h3 : ¬ k.til ≤ k.frm) (h4 : hasId l k.id = true) : addC t l k = 4 := by unfold addC; rw [if_neg (by simp [h]), if_neg (by simp [h2]), if_neg h3, if_pos h4]
theorem addC_ok {t : Int} {l : List KeyM} {k : KeyM} (h : idOk k.id = true) (h2 : rngK t k = false) (h3 : ¬ k.til ≤ k.frm) (h4 : hasId l k.id = false) : addC t l k = 0 := by unfold addC; rw [if_neg (by simp [h]), if_neg (by simp [h2]), if_neg h3, if_neg (by simp [h4])]
theorem rngK_iff {t : Int} {k : KeyM} : rngK t k = false ↔ 0 ≤ t ∧ t < 16 ∧ 16 ≤ k.sec.length ∧ k.sec.length ≤ 64 ∧ k.frm = clipK k.frm ∧ k.til = clipK k.til := by
 unfold rngK
 simp only [Bool.or_eq_false_iff, decide_eq_false_iff_not, Bool.not_eq_eq_eq_not, Bool.not_false, beq_iff_eq]
 constructor
 ·rintro ⟨⟨⟨⟨⟨h1, h2⟩, h3⟩, h4⟩, h5⟩, h6⟩
  exact ⟨by omega, by omega, by omega, by omega, h5, h6⟩
 ·rintro ⟨h1, h2, h3, h4, h5, h6⟩
  exact ⟨⟨⟨⟨⟨by omega, by omega⟩, by omega⟩, by omega⟩, h5⟩, h6⟩
@[reducible] def keyV (id : Bs) (v : Value) (frm til : Int) : Value := .agg #[.string ⟨id.toArray⟩, v, .int .i64 frm, .int .i64 til]
theorem add_name (B R : Nat) (t : Int) (id sec : Bs) (frm til : Int) (sa : Option Addr) (sc : Nat) (V : Nat → Value) (E : Nat → List Ent) (w : World) (h : RingAt w B R V E) (hi : id.length ≤ 2147483648) (hl : (tlK E t).length ≤ 1000000) (hn : idOk id = false) :
 Calls Tryz.prog 24 #[ptrK R, .int .i64 t, keyV id (.slice sa sec.length sc) frm til] w fun e w' => e = .returned (.iface 43 (.int .i64 8)) ∧ Below w.heap.size w w' := by
 have HID := Lib.hid hn
 clear h hn
 go_enter Tryz.func24, Tryz.ntmps24
 go_wp2_with (go_at_call 64; refine (named_any id _ hi).mono ?_; rw [HID.out]; rintro e w9 ⟨rfl, rfl⟩)
 go_ret
 exact ⟨rfl, (Below.refl _ _).alloc (Nat.le_refl _) _⟩
theorem add_rng (B R : Nat) (t : Int) (id sec : Bs) (frm til : Int) (sa : Option Addr) (sc : Nat) (V : Nat → Value) (E : Nat → List Ent) (w : World) (h : RingAt w B R V E) (hi : id.length ≤ 2147483648) (hl : (tlK E t).length ≤ 1000000) (hn : idOk id = true) (hg : rngK t ⟨id, sec, frm, til, 0⟩ = true) :
 Calls Tryz.prog 24 #[ptrK R, .int .i64 t, keyV id (.slice sa sec.length sc) frm til] w fun e w' => e = .returned (.iface 43 (.int .i64 1)) ∧ Below w.heap.size w w' := by
 have HID := Lib.hid hn
 have hcf := clipK_lo frm
 have HG : Hid (rngK t ⟨id, sec, frm, til, 0⟩ = true) := Lib.hid hg
 clear h hn hg hcf
 by_cases h0 : t < 0
 ·clear HG
  go_enter Tryz.func24, Tryz.ntmps24
  go_wp2_with (go_at_call 64; refine (named_any id _ hi).mono ?_; rw [HID.out]; rintro e w9 ⟨rfl, rfl⟩)
  go_quiet ((go_at_call 41; exact quiet_eq (clip_any _ _)))
  go_wp2
  go_ret
  exact ⟨rfl, below_drewN ((Below.refl _ _).alloc (Nat.le_refl _) _) _⟩
 by_cases h1 : 16 ≤ t
 ·clear HG
  go_enter Tryz.func24, Tryz.ntmps24
  go_wp2_with (go_at_call 64; refine (named_any id _ hi).mono ?_; rw [HID.out]; rintro e w9 ⟨rfl, rfl⟩)
  go_quiet ((go_at_call 41; exact quiet_eq (clip_any _ _)))
  go_wp2
  go_ret
  exact ⟨rfl, below_drewN ((Below.refl _ _).alloc (Nat.le_refl _) _) _⟩
 by_cases h2 : sec.length < 16
 ·have h2' : (sec.length : Int) < 16 := by omega
  clear HG h2
  go_enter Tryz.func24, Tryz.ntmps24
  go_wp2_with (go_at_call 64; refine (named_any id _ hi).mono ?_; rw [HID.out]; rintro e w9 ⟨rfl, rfl⟩)
  go_quiet ((go_at_call 41; exact quiet_eq (clip_any _ _)))
  go_wp2
  go_ret
  exact ⟨rfl, below_drewN ((Below.refl _ _).alloc (Nat.le_refl _) _) _⟩
 by_cases h3 : 64 < sec.length
 ·have h3' : 64 < (sec.length : Int) := by omega
  have h2' : ¬ (sec.length : Int) < 16 := by omega
  clear HG h2 h3
  go_enter Tryz.func24, Tryz.ntmps24
  go_wp2_with (go_at_call 64; refine (named_any id _ hi).mono ?_; rw [HID.out]; rintro e w9 ⟨rfl, rfl⟩)
  go_quiet ((go_at_call 41; exact quiet_eq (clip_any _ _)))
  go_wp2
  go_ret
  exact ⟨rfl, below_drewN ((Below.refl _ _).alloc (Nat.le_refl _) _) _⟩
 have h2' : ¬ (sec.length : Int) < 16 := by omega
 have h3' : ¬ 64 < (sec.length : Int) := by omega
 cases h4 : (frm != clipK frm) with
 | true =>
   clear HG h2 h3
   go_enter Tryz.func24, Tryz.ntmps24
   go_wp2_with (go_at_call 64; refine (named_any id _ hi).mono ?_; rw [HID.out]; rintro e w9 ⟨rfl, rfl⟩)
   go_quiet ((go_at_call 41; exact quiet_eq (clip_any _ _)))
   go_wp2
   go_ret
   exact ⟨rfl, below_drewN ((Below.refl _ _).alloc (Nat.le_refl _) _) _⟩
 | false =>
   have h5 : (til != clipK til) = true := by
    have h6 := HG.out
    unfold rngK at h6
    have e1 : (frm == clipK frm) = true := by simpa [bne] using h4
    rw [decide_eq_false (by omega), decide_eq_false (by omega), decide_eq_false (by omega), decide_eq_false (by omega)] at h6
    simp only [e1] at h6
    simpa [bne] using h6
   clear HG h2 h3
   go_enter Tryz.func24, Tryz.ntmps24
   go_wp2_with (go_at_call 64; refine (named_any id _ hi).mono ?_; rw [HID.out]; rintro e w9 ⟨rfl, rfl⟩)
   go_quiet ((go_at_call 41; exact quiet_eq (clip_any _ _)))
   go_wp2
   go_ret
   exact ⟨rfl, below_drewN ((Below.refl _ _).alloc (Nat.le_refl _) _) _⟩
end Kr
end Go.Proofs.YtpkhbhdidkkebaaGreatDoor
end

