/- Contracts and plain facts that the statement's proof leans on (texts joined). No condition beyond those that each names. -/
import Derived.Test.YtpkhbhdidkkebaaGreatDoorPvE
section
namespace Go.Proofs.YtpkhbhdidkkebaaGreatDoor
open Go.RowKit Pl Ad
attribute [local go_sem] ba_get ba_append ba_extract_end ba_extract_zero ba_extract
set_option maxRecDepth 100000
set_option maxHeartbeats 4000000
set_option linter.unusedVariables false
set_option linter.unusedSimpArgs false
namespace Kr
def ring0 : Array Value := Array.replicate 16 (.slice none 0 0)
theorem keyNew_any (w : World) : Calls Tryz.prog 8 #[] w fun e w' => e = .returned (ptrK w.heap.size) ∧ w' = w.alloc (.cells ring0 102) := by
 go_enter Tryz.func8, Tryz.ntmps8
 go_wp2
 go_ret
 exact ⟨rfl, rfl⟩
theorem ringAt_new (w : World) (B : Nat) (hB : B ≤ w.heap.size) : RingAt (w.alloc (.cells ring0 102)) B w.heap.size (fun _ => .slice none 0 0) (fun _ => []) := by
 exact ⟨hB, ⟨ring0, Bx.new w _ _, by simp [ring0], fun t ht => by simp [ring0, ht]⟩, fun t ht => OwnWin.nil _ _ _ _, fun t s q _ _ h _ => by simp [Value.ownBlock] at h, fun t ht e he => (by cases he), fun t s i j a b _ _ h _ _ => by simp at h⟩
theorem clip_any (n : Int) (w : World) : Calls Tryz.prog 41 #[.int .i64 n] w fun e w' => e = .returned (.int .i64 (clipK n)) ∧ w = w' := by
 go_enter Tryz.func41, Tryz.ntmps41
 go_wp2
 go_ret
 exact ⟨rfl, rfl⟩
theorem refClip_any (a lo hi : Int) (w : World) : Calls Tryz.prog 106 #[.int .i64 a, .int .i64 lo, .int .i64 hi] w fun e w' => e = .returned (.int .i64 (max lo (min a hi))) ∧ w = w' := by
 go_enter Tryz.func106, Tryz.ntmps106
 go_wp2
 go_ret
 exact ⟨rfl, rfl⟩
theorem idOk_of {l : Bs} (h : l.all idc = true) : idOk l = (decide (1 ≤ l.length) && decide (l.length ≤ 16)) := by unfold idOk; rw [h]; rfl
theorem idOk_bad {l : Bs} {k : Nat} (hk : k < l.length) (h : idc l[k] = false) : idOk l = false := by
 have : l.all idc = false := by
  rw [List.all_eq_false]
  exact ⟨l[k], List.getElem_mem hk, by simp [h]⟩
 unfold idOk; rw [this]; rfl
theorem all_next {l : Bs} {k : Nat} (hk : k < l.length) (h : (l.take k).all idc = true) (h2 : idc l[k] = true) : (l.take (k + 1)).all idc = true := by
 rw [take_snoc hk, List.all_append, h]; simp [h2]
theorem idc_yes {b : UInt8} (h : (97 ≤ (b.toNat : Int) ∧ (b.toNat : Int) ≤ 122) ∨ (65 ≤ (b.toNat : Int) ∧ (b.toNat : Int) ≤ 90) ∨ (48 ≤ (b.toNat : Int) ∧ (b.toNat : Int) ≤ 57)) : idc b = true := by
 simp only [idc, Bool.or_eq_true, Bool.and_eq_true, decide_eq_true_eq]
 omega
theorem idc_no {b : UInt8} (h : ((b.toNat : Int) < 97 ∨ 122 < (b.toNat : Int)) ∧ ((b.toNat : Int) < 65 ∨ 90 < (b.toNat : Int)) ∧ ((b.toNat : Int) < 48 ∨ 57 < (b.toNat : Int))) : idc b = false := by
 simp only [idc, Bool.or_eq_false_iff, Bool.and_eq_false_iff, decide_eq_false_iff_not]
 omega
theorem named_any (l : Bs) (w : World) (hl : l.length ≤ 2147483648) :
 Calls Tryz.prog 64 #[.string ⟨l.toArray⟩] w fun e w' => e = .returned (.bool (idOk l)) ∧ w = w' := by
 go_enter Tryz.func64, Tryz.ntmps64
 go_wp2
 go_loop [7] (fun i => ∃ k : Nat, k ≤ l.length ∧ i = .int .i64 k ∧ Hid ((l.take k).all idc = true)) (fun i => l.length - (intOf i).toNat)
 case atStart => exact ⟨0, Nat.zero_le _, rfl, Lib.hid rfl⟩
 case round =>
  obtain ⟨k, hk, rfl, H⟩ := hrel
  by_cases hlt : k < l.length
  ·have hb := byte_lt l[k]
   go_wp2
   all_goals first
    | (go_round
       case rel => exact ⟨k + 1, by omega, by go_num, Lib.hid (all_next hlt H.out (idc_yes (by omega)))⟩
       case measure => simp [intOf]; omega)
    | (go_ret
       exact ⟨ret_bool (idOk_bad hlt (idc_no (by omega))).symm, rfl⟩)
  ·have HN := Lib.hid (idOk_of (l := l) (by have h := H.out; rw [List.take_of_length_le (by omega)] at h; exact h))
   go_wp2
   all_goals
     go_ret
     exact ⟨ret_bool (by rw [HN.out, Bool.eq_iff_iff]; simp; try omega), rfl⟩
theorem refID_any (l : Bs) (w : World) (hl : l.length ≤ 2147483648) :
 Calls Tryz.prog 65 #[.string ⟨l.toArray⟩] w fun e w' => e = .returned (.bool (idOk l)) ∧ w = w' := by
 go_enter Tryz.func65, Tryz.ntmps65
 go_wp2
 go_loop [7] (fun i => ∃ k : Nat, k ≤ l.length ∧ i = .int .i64 k ∧ Hid ((l.take k).all idc = true)) (fun i => l.length - (intOf i).toNat)
 case atStart => exact ⟨0, Nat.zero_le _, rfl, Lib.hid rfl⟩
 case round =>
  obtain ⟨k, hk, rfl, H⟩ := hrel
  by_cases hlt : k < l.length
  ·have hb := byte_lt l[k]
   go_wp2
   all_goals first
    | (go_round
       case rel => exact ⟨k + 1, by omega, by go_num, Lib.hid (all_next hlt H.out (idc_yes (by first | omega | (simp only [Bool.not_eq_eq_eq_not, Bool.not_false, Bool.not_true, decide_eq_true_eq, decide_eq_false_iff_not] at *; omega))))⟩
       case measure => simp [intOf]; omega)
    | (go_ret
       exact ⟨ret_bool (idOk_bad hlt (idc_no (by first | omega | (simp only [Bool.not_eq_eq_eq_not, Bool.not_false, Bool.not_true, decide_eq_true_eq, decide_eq_false_iff_not] at *; omega)))).symm, rfl⟩)
  ·have HN := Lib.hid (idOk_of (l := l) (by have h := H.out; rw [List.take_of_length_le (by omega)] at h; exact h))
   go_wp2
   all_goals
     go_ret
     exact ⟨ret_bool (by rw [HN.out, Bool.eq_iff_iff]; simp; try omega), rfl⟩
theorem entValid_any (e : Ent) (B : Nat) (n : Int) (w : World) (h : EntAt w B e) :
 Calls Tryz.prog 50 #[ptrK e.blk, .int .i64 n] w fun r w' => r = .returned (.bool (e.key.at n)) ∧ w = w' := by
 obtain ⟨⟨c0, c1, c2, c3, c4⟩, _, hz⟩ := h.facts
 obtain ⟨blk, sv, ⟨id, sec, frm, til, rev⟩⟩ := e
 simp only at c0 c1 c2 c3 c4 hz ⊢
 have HV := Lib.hid (show KeyM.at ⟨id, sec, frm, til, rev⟩ n = (decide (frm ≤ n) && decide (n < til) && decide (n < rev)) from rfl)
 clear h
 go_enter Tryz.func50, Tryz.ntmps50
 go_wp2
 all_goals
   go_ret
   exact ⟨ret_bool (by rw [HV.out, Bool.eq_iff_iff]; simp [*]; try omega), rfl⟩
theorem of_in (B R t : Nat) (V : Nat → Value) (E : Nat → List Ent) (w : World) (h : RingAt w B R V E) (ht : t < 16) :
 Calls Tryz.prog 44 #[ptrK R, .int .i64 t] w fun r w' => r = .returned (V t) ∧ w = w' := by
 obtain ⟨C, hb, _, hv⟩ := h.box
 have hc := hb.cell (hv t ht)
 have hz := hb.lt
 have h0 : (0 : Int) ≤ (t : Int) := by omega
 have h1 : (t : Int) < 16 := by omega
 clear h hb hv
 generalize V t = v at hc ⊢
 go_enter Tryz.func44, Tryz.ntmps44
 go_wp2
 go_ret
 exact ⟨rfl, rfl⟩
theorem of_out (R : Nat) (t : Int) (w : World) (ht : ¬ (0 ≤ t ∧ t < 16)) :
 Calls Tryz.prog 44 #[ptrK R, .int .i64 t] w fun r w' => r = .returned (.slice none 0 0) ∧ w = w' := by
 by_cases h0 : t < 0
 ·go_enter Tryz.func44, Tryz.ntmps44
  go_wp2
  go_ret
  exact ⟨rfl, rfl⟩
 ·have h1 : 16 ≤ t := by omega
  clear ht
  go_enter Tryz.func44, Tryz.ntmps44
  go_wp2
  go_ret
  exact ⟨rfl, rfl⟩
theorem of_any (B R : Nat) (t : Int) (V : Nat → Value) (E : Nat → List Ent) (w : World) (h : RingAt w B R V E) :
 Calls Tryz.prog 44 #[ptrK R, .int .i64 t] w fun r w' => r = .returned (vtK V t) ∧ w = w' := by
 by_cases ht : 0 ≤ t ∧ t < 16
 ·obtain ⟨n, rfl⟩ : ∃ n : Nat, t = (n : Int) := ⟨t.toNat, by omega⟩
  rw [vtK_nat V (by omega)]
  exact of_in B R n V E w h (by omega)
 ·unfold vtK
  rw [if_neg ht]
  exact of_out R t w ht
end Kr
end Go.Proofs.YtpkhbhdidkkebaaGreatDoor
end

