/- Contract: the keyring's Add behind its checks. Conditions: at most a million keys, texts of at most 2^31 bytes. -/
import Derived.Test.YtbpbopjlcidefaaDoorKeyE
namespace Go.Proofs.YtbpbopjlcidefaaDoor
open Go.RowKit Pl Ad
attribute [local go_sem] ba_get ba_append ba_extract_end ba_extract_zero ba_extract
set_option maxRecDepth 100000
set_option maxHeartbeats 4000000
set_option linter.unusedVariables false
set_option linter.unusedSimpArgs false
namespace Kr
theorem add_ord (B R : Nat) (t : Int) (id sec : Bs) (frm til : Int) (sa : Option Addr) (sc : Nat) (V : Nat → Value) (E : Nat → List Ent) (w : World) (h : RingAt w B R V E) (hi : id.length ≤ 2147483648) (hl : (tlK E t).length ≤ 1000000) (hn : idOk id = true) (hg : rngK t ⟨id, sec, frm, til, 0⟩ = false) (ho : til ≤ frm) :
    Calls Tryd.prog 8 #[ptrK R, .int .i64 t, keyV id (.slice sa sec.length sc) frm til] w fun e w' => e = .returned (.iface 65 (.int .i64 7)) ∧ Below w.heap.size w w' := by
  have HID := Lib.hid hn
  obtain ⟨h0, h1, h2, h3, h4, h5⟩ := rngK_iff.1 hg
  simp only at h2 h3 h4 h5
  have h2' : ¬ (sec.length : Int) < 16 := by omega
  have h3' : ¬ 64 < (sec.length : Int) := by omega
  have h0' : ¬ t < 0 := by omega
  have h1' : ¬ 16 ≤ t := by omega
  have h4' : (frm != clipK frm) = false := by simp [bne, ← h4]
  have h5' : (til != clipK til) = false := by simp [bne, ← h5]
  clear h4 h5 hg hn
  clear h
  go_enter Tryd.func8, Tryd.ntmps8
  go_wp2_with (go_at_call 22; refine (named_any id _ hi).mono ?_; rw [HID.out]; rintro e w9 ⟨rfl, rfl⟩)
  go_quiet ((go_at_call 23; exact quiet_eq (clip_any _ _)))
  go_wp2
  go_ret
  exact ⟨rfl, below_drewN ((Below.refl _ _).alloc (Nat.le_refl _) _) _⟩
theorem add_has (B R : Nat) (t : Int) (id sec : Bs) (frm til : Int) (sa : Option Addr) (sc : Nat) (V : Nat → Value) (E : Nat → List Ent) (w : World) (h : RingAt w B R V E) (hi : id.length ≤ 2147483648) (hl : (tlK E t).length ≤ 1000000) (hn : idOk id = true) (hg : rngK t ⟨id, sec, frm, til, 0⟩ = false) (ho : ¬ til ≤ frm) (hx : hasId (keysOf E t) id = true) :
    Calls Tryd.prog 8 #[ptrK R, .int .i64 t, keyV id (.slice sa sec.length sc) frm til] w fun e w' => e = .returned (.iface 65 (.int .i64 4)) ∧ Below w.heap.size w w' := by
  have HID := Lib.hid hn
  obtain ⟨h0, h1, h2, h3, h4, h5⟩ := rngK_iff.1 hg
  simp only at h2 h3 h4 h5
  have h2' : ¬ (sec.length : Int) < 16 := by omega
  have h3' : ¬ 64 < (sec.length : Int) := by omega
  have h0' : ¬ t < 0 := by omega
  have h1' : ¬ 16 ≤ t := by omega
  have h4' : (frm != clipK frm) = false := by simp [bne, ← h4]
  have h5' : (til != clipK til) = false := by simp [bne, ← h5]
  clear h4 h5 hg hn
  have HR := Lib.hid (h.older ((Below.refl _ _).alloc (Nat.le_refl _) (.cells #[.string ⟨id.toArray⟩, .slice sa sec.length sc, .int .i64 frm, .int .i64 til] 32)))
  obtain ⟨x, hf⟩ : ∃ x, findE (tlK E t) id = some x := by
    unfold keysOf at hx
    rw [hasId_find] at hx
    exact Option.isSome_iff_exists.1 hx
  have HF := Lib.hid hf
  clear h hx hf
  go_enter Tryd.func8, Tryd.ntmps8
  go_wp2_with (go_at_call 22; refine (named_any id _ hi).mono ?_; rw [HID.out]; rintro e w9 ⟨rfl, rfl⟩)
  go_quiet ((go_at_call 23; exact quiet_eq (clip_any _ _)))
  go_wp2_with (go_at_call 24; refine (find_any B R t id V E _ (HR.out.older (below_drewN (Below.refl _ _) _)) hl).mono ?_; rw [HF.out, ptrE_some]; rintro e w9 ⟨rfl, rfl⟩)
  go_ret
  exact ⟨rfl, below_drewN ((Below.refl _ _).alloc (Nat.le_refl _) _) _⟩
end Kr
end Go.Proofs.YtbpbopjlcidefaaDoor
