/- Contract: the laws' written (a segment with a byte encoded). Conditions: texts of at most 2^20 bytes. -/
import Derived.Test.YthbjpekgiiflkaaDoorAddrD
import Derived.Test.YthbjpekgiiflkaaDoorAddrL
import Derived.BigQuiet
namespace Go.Proofs.YthbjpekgiiflkaaDoor
open Go.RowKit Pl Ad
attribute [local go_sem] ba_get conv_one conv_one_drewN ba_append ba_extract_end ba_extract_zero ba_extract
set_option maxRecDepth 100000
set_option maxHeartbeats 4000000
set_option linter.unusedVariables false
namespace A1

/-- The bytes of a token that are not unreserved. -/
def marksT : Bs := [37, 42, 43, 33, 35, 36, 38, 39, 94, 96, 124]
theorem token_one (c : UInt8) : tokenB [c] = (unresB c.toNat || decide (c ∈ marksT)) := by
  have h : ∀ n : Fin 256, tokenB [UInt8.ofNat n.val] = (unresB (UInt8.ofNat n.val).toNat || decide (UInt8.ofNat n.val ∈ marksT)) := by decide +kernel
  have := h ⟨c.toNat, c.toNat_lt⟩
  simpa using this
theorem unres_marks (c : UInt8) (h : unresB c.toNat = true) : ∀ m ∈ marksT, c ≠ m := by
  intro m hm e
  subst e
  revert h
  have g : ∀ x ∈ marksT, ¬ unresB x.toNat = true := by decide
  exact g _ hm
theorem byte_ne {c m : UInt8} (h : c ≠ m) : ((c.toNat : Int) == (m.toNat : Int)) = false ∧ ((c.toNat : Int) != (m.toNat : Int)) = true := by
  have h1 : ((c.toNat : Int) == (m.toNat : Int)) = false := beq_eq_false_iff_ne.2 (fun e => h (UInt8.toNat_inj.1 (by omega)))
  exact ⟨h1, by rw [bne, h1]; rfl⟩
theorem byte_eq {c m : UInt8} (h : c = m) : ((c.toNat : Int) == (m.toNat : Int)) = true ∧ ((c.toNat : Int) != (m.toNat : Int)) = false := by
  subst h; simp
def encDigits (low : Bool) : Bs := if low then [48, 49, 50, 51, 52, 53, 54, 55, 56, 57, 97, 98, 99, 100, 101, 102] else [48, 49, 50, 51, 52, 53, 54, 55, 56, 57, 65, 66, 67, 68, 69, 70]
theorem encDigits_len (low : Bool) : (encDigits low).length = 16 := by cases low <;> rfl
theorem encDigits_t : encDigits true = [48, 49, 50, 51, 52, 53, 54, 55, 56, 57, 97, 98, 99, 100, 101, 102] := rfl
theorem encDigits_f : encDigits false = [48, 49, 50, 51, 52, 53, 54, 55, 56, 57, 65, 66, 67, 68, 69, 70] := rfl
theorem encB_digits (c : UInt8) (low : Bool) : encB c low = 37 :: (((encDigits low).drop (c.toNat / 16)).take 1 ++ ((encDigits low).drop (c.toNat % 16)).take 1) := by
  have hc := c.toNat_lt
  have h1 : c.toNat / 16 < (encDigits low).length := by rw [encDigits_len]; omega
  have h2 : c.toNat % 16 < (encDigits low).length := by rw [encDigits_len]; omega
  rw [take_one _ _ h1, take_one _ _ h2]
  unfold encB
  have e : (if low then [48, 49, 50, 51, 52, 53, 54, 55, 56, 57, 97, 98, 99, 100, 101, 102] else hexDigits : Bs) = encDigits low := by cases low <;> rfl
  rw [e]
  simp [List.getD, h1, h2]
theorem enc1_yes {t : Bs} {i : Nat} {low : Bool} (hi : i < t.length) (hu : unresB (t[i]).toNat = true) : enc1 t i low = t.take i ++ 37 :: (((encDigits low).drop ((t[i]).toNat / 16)).take 1 ++ (((encDigits low).drop ((t[i]).toNat % 16)).take 1 ++ t.drop (i + 1))) := by
  unfold enc1
  rw [drop_cons hi]
  simp only
  rw [if_pos hu, encB_digits]
  simp
theorem enc1_no {t : Bs} {i : Nat} {low : Bool} (hi : i < t.length) (hu : unresB (t[i]).toNat = false) : enc1 t i low = t := by
  unfold enc1
  rw [drop_cons hi]
  simp [hu]
theorem enc1_nil (i : Nat) (low : Bool) : enc1 [] i low = [] := by simp [enc1]

theorem written_nil (en bf : Nat) (low : Bool) (w : World) :
    Calls Tryd.prog 16 #[.agg #[.string ⟨#[]⟩, .int .u8 en, .bool low, .int .u8 bf]] w fun e w' => e = .returned (.string ⟨#[]⟩) ∧ Below w.heap.size w w' := by
  go_enter Tryd.func16, Tryd.ntmps16
  go_wp2_with fail
  go_ret
  exact ⟨rfl, (Below.refl _ _).alloc (Nat.le_refl _) _⟩

theorem written_yes_false (t : Bs) (en bf i : Nat) (w : World) (ht : t.length ≤ 1048576) (he : en ≤ 255) (hi : i < t.length) (hie : (en : Int) % (t.length : Int) = (i : Int)) (hu : unresB (t[i]).toNat = true) :
    Calls Tryd.prog 16 #[.agg #[.string ⟨t.toArray⟩, .int .u8 en, .bool false, .int .u8 bf]] w fun e w' => e = .returned (.string ⟨(enc1 t i false).toArray⟩) ∧ Below w.heap.size w w' := by
  have HE := Lib.hid (enc1_yes (low := false) hi hu)
  rw [encDigits_f] at HE
  have HT := Lib.hid (show tokenB [t[i]] = true by rw [token_one, hu]; rfl)
  have hm := unres_marks t[i] hu
  have h255 := byte_lt t[i]
  have H1 := Lib.hid (take_one t i hi)
  generalize hx : t[i] = c at HE HT hm h255 H1
  have q1 : ((c.toNat : Int) != 37) = true := (byte_ne (hm 37 (by decide))).2
  have q2 : ((c.toNat : Int) != 42) = true := (byte_ne (hm 42 (by decide))).2
  have q3 : ((c.toNat : Int) != 43) = true := (byte_ne (hm 43 (by decide))).2
  have q4 : ((c.toNat : Int) != 33) = true := (byte_ne (hm 33 (by decide))).2
  have q5 : ((c.toNat : Int) != 35) = true := (byte_ne (hm 35 (by decide))).2
  have q6 : ((c.toNat : Int) != 36) = true := (byte_ne (hm 36 (by decide))).2
  have q7 : ((c.toNat : Int) != 38) = true := (byte_ne (hm 38 (by decide))).2
  have q8 : ((c.toNat : Int) != 39) = true := (byte_ne (hm 39 (by decide))).2
  have q9 : ((c.toNat : Int) != 94) = true := (byte_ne (hm 94 (by decide))).2
  have q10 : ((c.toNat : Int) != 96) = true := (byte_ne (hm 96 (by decide))).2
  have q11 : ((c.toNat : Int) != 124) = true := (byte_ne (hm 124 (by decide))).2
  clear hm hu
  have hl1 : ((t.length : Int) == 0) = false := beq_eq_false_iff_ne.2 (by omega)
  have z1 : ((i : Int) + 1).toNat = i + 1 := by omega
  have hbx := box_new w 34 (.string ⟨t.toArray⟩) (.int .u8 en) (.bool false) (.int .u8 bf)
  go_enter Tryd.func16, Tryd.ntmps16
  go_wp2_with (go_at_call 40; rw [H1.out]; refine (token_any [c] _ (by simp)).mono ?_; rintro e w' ⟨rfl, rfl⟩; rw [HT.out])
  have s1 : IntKind.u8.wrap ((c.toNat : Int) / 16 + 1) = (c.toNat : Int) / 16 + 1 := IntWalk.u8_in _ (by omega)
  have s2 : IntKind.u8.wrap ((c.toNat : Int) % 16 + 1) = (c.toNat : Int) % 16 + 1 := IntWalk.u8_in _ (by omega)
  have s3 : IntKind.i64.wrap ((i : Int) + 1) = (i : Int) + 1 := IntWalk.i64_in _ (by omega)
  go_quiet (fail)
  go_wp2
  go_ret
  exact ⟨ret_str (by rw [HE.out]; simp; exact List.take_of_length_le (by simp)), below_drewN ((Below.refl _ _).alloc (Nat.le_refl _) _) _⟩

theorem written_yes_true (t : Bs) (en bf i : Nat) (w : World) (ht : t.length ≤ 1048576) (he : en ≤ 255) (hi : i < t.length) (hie : (en : Int) % (t.length : Int) = (i : Int)) (hu : unresB (t[i]).toNat = true) :
    Calls Tryd.prog 16 #[.agg #[.string ⟨t.toArray⟩, .int .u8 en, .bool true, .int .u8 bf]] w fun e w' => e = .returned (.string ⟨(enc1 t i true).toArray⟩) ∧ Below w.heap.size w w' := by
  have HE := Lib.hid (enc1_yes (low := true) hi hu)
  rw [encDigits_t] at HE
  have HT := Lib.hid (show tokenB [t[i]] = true by rw [token_one, hu]; rfl)
  have hm := unres_marks t[i] hu
  have h255 := byte_lt t[i]
  have H1 := Lib.hid (take_one t i hi)
  generalize hx : t[i] = c at HE HT hm h255 H1
  have q1 : ((c.toNat : Int) != 37) = true := (byte_ne (hm 37 (by decide))).2
  have q2 : ((c.toNat : Int) != 42) = true := (byte_ne (hm 42 (by decide))).2
  have q3 : ((c.toNat : Int) != 43) = true := (byte_ne (hm 43 (by decide))).2
  have q4 : ((c.toNat : Int) != 33) = true := (byte_ne (hm 33 (by decide))).2
  have q5 : ((c.toNat : Int) != 35) = true := (byte_ne (hm 35 (by decide))).2
  have q6 : ((c.toNat : Int) != 36) = true := (byte_ne (hm 36 (by decide))).2
  have q7 : ((c.toNat : Int) != 38) = true := (byte_ne (hm 38 (by decide))).2
  have q8 : ((c.toNat : Int) != 39) = true := (byte_ne (hm 39 (by decide))).2
  have q9 : ((c.toNat : Int) != 94) = true := (byte_ne (hm 94 (by decide))).2
  have q10 : ((c.toNat : Int) != 96) = true := (byte_ne (hm 96 (by decide))).2
  have q11 : ((c.toNat : Int) != 124) = true := (byte_ne (hm 124 (by decide))).2
  clear hm hu
  have hl1 : ((t.length : Int) == 0) = false := beq_eq_false_iff_ne.2 (by omega)
  have z1 : ((i : Int) + 1).toNat = i + 1 := by omega
  have hbx := box_new w 34 (.string ⟨t.toArray⟩) (.int .u8 en) (.bool true) (.int .u8 bf)
  go_enter Tryd.func16, Tryd.ntmps16
  go_wp2_with (go_at_call 40; rw [H1.out]; refine (token_any [c] _ (by simp)).mono ?_; rintro e w' ⟨rfl, rfl⟩; rw [HT.out])
  have s1 : IntKind.u8.wrap ((c.toNat : Int) / 16 + 1) = (c.toNat : Int) / 16 + 1 := IntWalk.u8_in _ (by omega)
  have s2 : IntKind.u8.wrap ((c.toNat : Int) % 16 + 1) = (c.toNat : Int) % 16 + 1 := IntWalk.u8_in _ (by omega)
  have s3 : IntKind.i64.wrap ((i : Int) + 1) = (i : Int) + 1 := IntWalk.i64_in _ (by omega)
  go_quiet (fail)
  go_wp2
  go_ret
  exact ⟨ret_str (by rw [HE.out]; simp; exact List.take_of_length_le (by simp)), below_drewN ((Below.refl _ _).alloc (Nat.le_refl _) _) _⟩

theorem written_mark_37 (t : Bs) (en bf i : Nat) (low : Bool) (w : World) (ht : t.length ≤ 1048576) (he : en ≤ 255) (hi : i < t.length) (hie : (en : Int) % (t.length : Int) = (i : Int)) (hm : t[i] = 37) :
    Calls Tryd.prog 16 #[.agg #[.string ⟨t.toArray⟩, .int .u8 en, .bool low, .int .u8 bf]] w fun e w' => e = .returned (.string ⟨t.toArray⟩) ∧ Below w.heap.size w w' := by
  have HT := Lib.hid (show tokenB [t[i]] = true by rw [hm]; rfl)
  have h255 := byte_lt t[i]
  have H1 := Lib.hid (take_one t i hi)
  have q0 : (((t[i]).toNat : Int) != 37) = false := (byte_eq hm).2
  generalize hx : t[i] = c at HT h255 H1 q0
  clear hm
  have hl1 : ((t.length : Int) == 0) = false := beq_eq_false_iff_ne.2 (by omega)
  have z1 : ((i : Int) + 1).toNat = i + 1 := by omega
  cases low
  all_goals
    go_enter Tryd.func16, Tryd.ntmps16
    go_wp2_with (go_at_call 40; rw [H1.out]; refine (token_any [c] _ (by simp)).mono ?_; rintro e w' ⟨rfl, rfl⟩; rw [HT.out])
    go_ret
    exact ⟨rfl, (Below.refl _ _).alloc (Nat.le_refl _) _⟩

theorem written_mark_42 (t : Bs) (en bf i : Nat) (low : Bool) (w : World) (ht : t.length ≤ 1048576) (he : en ≤ 255) (hi : i < t.length) (hie : (en : Int) % (t.length : Int) = (i : Int)) (hm : t[i] = 42) :
    Calls Tryd.prog 16 #[.agg #[.string ⟨t.toArray⟩, .int .u8 en, .bool low, .int .u8 bf]] w fun e w' => e = .returned (.string ⟨t.toArray⟩) ∧ Below w.heap.size w w' := by
  have HT := Lib.hid (show tokenB [t[i]] = true by rw [hm]; rfl)
  have h255 := byte_lt t[i]
  have H1 := Lib.hid (take_one t i hi)
  have q1 : (((t[i]).toNat : Int) != 37) = true := (byte_ne (show t[i] ≠ 37 by rw [hm]; decide)).2
  have q0 : (((t[i]).toNat : Int) != 42) = false := (byte_eq hm).2
  generalize hx : t[i] = c at HT h255 H1 q0 q1
  clear hm
  have hl1 : ((t.length : Int) == 0) = false := beq_eq_false_iff_ne.2 (by omega)
  have z1 : ((i : Int) + 1).toNat = i + 1 := by omega
  cases low
  all_goals
    go_enter Tryd.func16, Tryd.ntmps16
    go_wp2_with (go_at_call 40; rw [H1.out]; refine (token_any [c] _ (by simp)).mono ?_; rintro e w' ⟨rfl, rfl⟩; rw [HT.out])
    go_ret
    exact ⟨rfl, (Below.refl _ _).alloc (Nat.le_refl _) _⟩

theorem written_mark_43 (t : Bs) (en bf i : Nat) (low : Bool) (w : World) (ht : t.length ≤ 1048576) (he : en ≤ 255) (hi : i < t.length) (hie : (en : Int) % (t.length : Int) = (i : Int)) (hm : t[i] = 43) :
    Calls Tryd.prog 16 #[.agg #[.string ⟨t.toArray⟩, .int .u8 en, .bool low, .int .u8 bf]] w fun e w' => e = .returned (.string ⟨t.toArray⟩) ∧ Below w.heap.size w w' := by
  have HT := Lib.hid (show tokenB [t[i]] = true by rw [hm]; rfl)
  have h255 := byte_lt t[i]
  have H1 := Lib.hid (take_one t i hi)
  have q1 : (((t[i]).toNat : Int) != 37) = true := (byte_ne (show t[i] ≠ 37 by rw [hm]; decide)).2
  have q2 : (((t[i]).toNat : Int) != 42) = true := (byte_ne (show t[i] ≠ 42 by rw [hm]; decide)).2
  have q0 : (((t[i]).toNat : Int) != 43) = false := (byte_eq hm).2
  generalize hx : t[i] = c at HT h255 H1 q0 q1 q2
  clear hm
  have hl1 : ((t.length : Int) == 0) = false := beq_eq_false_iff_ne.2 (by omega)
  have z1 : ((i : Int) + 1).toNat = i + 1 := by omega
  cases low
  all_goals
    go_enter Tryd.func16, Tryd.ntmps16
    go_wp2_with (go_at_call 40; rw [H1.out]; refine (token_any [c] _ (by simp)).mono ?_; rintro e w' ⟨rfl, rfl⟩; rw [HT.out])
    go_ret
    exact ⟨rfl, (Below.refl _ _).alloc (Nat.le_refl _) _⟩

theorem written_mark_33 (t : Bs) (en bf i : Nat) (low : Bool) (w : World) (ht : t.length ≤ 1048576) (he : en ≤ 255) (hi : i < t.length) (hie : (en : Int) % (t.length : Int) = (i : Int)) (hm : t[i] = 33) :
    Calls Tryd.prog 16 #[.agg #[.string ⟨t.toArray⟩, .int .u8 en, .bool low, .int .u8 bf]] w fun e w' => e = .returned (.string ⟨t.toArray⟩) ∧ Below w.heap.size w w' := by
  have HT := Lib.hid (show tokenB [t[i]] = true by rw [hm]; rfl)
  have h255 := byte_lt t[i]
  have H1 := Lib.hid (take_one t i hi)
  have q1 : (((t[i]).toNat : Int) != 37) = true := (byte_ne (show t[i] ≠ 37 by rw [hm]; decide)).2
  have q2 : (((t[i]).toNat : Int) != 42) = true := (byte_ne (show t[i] ≠ 42 by rw [hm]; decide)).2
  have q3 : (((t[i]).toNat : Int) != 43) = true := (byte_ne (show t[i] ≠ 43 by rw [hm]; decide)).2
  have q0 : (((t[i]).toNat : Int) != 33) = false := (byte_eq hm).2
  generalize hx : t[i] = c at HT h255 H1 q0 q1 q2 q3
  clear hm
  have hl1 : ((t.length : Int) == 0) = false := beq_eq_false_iff_ne.2 (by omega)
  have z1 : ((i : Int) + 1).toNat = i + 1 := by omega
  cases low
  all_goals
    go_enter Tryd.func16, Tryd.ntmps16
    go_wp2_with (go_at_call 40; rw [H1.out]; refine (token_any [c] _ (by simp)).mono ?_; rintro e w' ⟨rfl, rfl⟩; rw [HT.out])
    go_ret
    exact ⟨rfl, (Below.refl _ _).alloc (Nat.le_refl _) _⟩

theorem written_mark_35 (t : Bs) (en bf i : Nat) (low : Bool) (w : World) (ht : t.length ≤ 1048576) (he : en ≤ 255) (hi : i < t.length) (hie : (en : Int) % (t.length : Int) = (i : Int)) (hm : t[i] = 35) :
    Calls Tryd.prog 16 #[.agg #[.string ⟨t.toArray⟩, .int .u8 en, .bool low, .int .u8 bf]] w fun e w' => e = .returned (.string ⟨t.toArray⟩) ∧ Below w.heap.size w w' := by
  have HT := Lib.hid (show tokenB [t[i]] = true by rw [hm]; rfl)
  have h255 := byte_lt t[i]
  have H1 := Lib.hid (take_one t i hi)
  have q1 : (((t[i]).toNat : Int) != 37) = true := (byte_ne (show t[i] ≠ 37 by rw [hm]; decide)).2
  have q2 : (((t[i]).toNat : Int) != 42) = true := (byte_ne (show t[i] ≠ 42 by rw [hm]; decide)).2
  have q3 : (((t[i]).toNat : Int) != 43) = true := (byte_ne (show t[i] ≠ 43 by rw [hm]; decide)).2
  have q4 : (((t[i]).toNat : Int) != 33) = true := (byte_ne (show t[i] ≠ 33 by rw [hm]; decide)).2
  have q0 : (((t[i]).toNat : Int) != 35) = false := (byte_eq hm).2
  generalize hx : t[i] = c at HT h255 H1 q0 q1 q2 q3 q4
  clear hm
  have hl1 : ((t.length : Int) == 0) = false := beq_eq_false_iff_ne.2 (by omega)
  have z1 : ((i : Int) + 1).toNat = i + 1 := by omega
  cases low
  all_goals
    go_enter Tryd.func16, Tryd.ntmps16
    go_wp2_with (go_at_call 40; rw [H1.out]; refine (token_any [c] _ (by simp)).mono ?_; rintro e w' ⟨rfl, rfl⟩; rw [HT.out])
    go_ret
    exact ⟨rfl, (Below.refl _ _).alloc (Nat.le_refl _) _⟩

theorem written_mark_36 (t : Bs) (en bf i : Nat) (low : Bool) (w : World) (ht : t.length ≤ 1048576) (he : en ≤ 255) (hi : i < t.length) (hie : (en : Int) % (t.length : Int) = (i : Int)) (hm : t[i] = 36) :
    Calls Tryd.prog 16 #[.agg #[.string ⟨t.toArray⟩, .int .u8 en, .bool low, .int .u8 bf]] w fun e w' => e = .returned (.string ⟨t.toArray⟩) ∧ Below w.heap.size w w' := by
  have HT := Lib.hid (show tokenB [t[i]] = true by rw [hm]; rfl)
  have h255 := byte_lt t[i]
  have H1 := Lib.hid (take_one t i hi)
  have q1 : (((t[i]).toNat : Int) != 37) = true := (byte_ne (show t[i] ≠ 37 by rw [hm]; decide)).2
  have q2 : (((t[i]).toNat : Int) != 42) = true := (byte_ne (show t[i] ≠ 42 by rw [hm]; decide)).2
  have q3 : (((t[i]).toNat : Int) != 43) = true := (byte_ne (show t[i] ≠ 43 by rw [hm]; decide)).2
  have q4 : (((t[i]).toNat : Int) != 33) = true := (byte_ne (show t[i] ≠ 33 by rw [hm]; decide)).2
  have q5 : (((t[i]).toNat : Int) != 35) = true := (byte_ne (show t[i] ≠ 35 by rw [hm]; decide)).2
  have q0 : (((t[i]).toNat : Int) != 36) = false := (byte_eq hm).2
  generalize hx : t[i] = c at HT h255 H1 q0 q1 q2 q3 q4 q5
  clear hm
  have hl1 : ((t.length : Int) == 0) = false := beq_eq_false_iff_ne.2 (by omega)
  have z1 : ((i : Int) + 1).toNat = i + 1 := by omega
  cases low
  all_goals
    go_enter Tryd.func16, Tryd.ntmps16
    go_wp2_with (go_at_call 40; rw [H1.out]; refine (token_any [c] _ (by simp)).mono ?_; rintro e w' ⟨rfl, rfl⟩; rw [HT.out])
    go_ret
    exact ⟨rfl, (Below.refl _ _).alloc (Nat.le_refl _) _⟩

theorem written_mark_38 (t : Bs) (en bf i : Nat) (low : Bool) (w : World) (ht : t.length ≤ 1048576) (he : en ≤ 255) (hi : i < t.length) (hie : (en : Int) % (t.length : Int) = (i : Int)) (hm : t[i] = 38) :
    Calls Tryd.prog 16 #[.agg #[.string ⟨t.toArray⟩, .int .u8 en, .bool low, .int .u8 bf]] w fun e w' => e = .returned (.string ⟨t.toArray⟩) ∧ Below w.heap.size w w' := by
  have HT := Lib.hid (show tokenB [t[i]] = true by rw [hm]; rfl)
  have h255 := byte_lt t[i]
  have H1 := Lib.hid (take_one t i hi)
  have q1 : (((t[i]).toNat : Int) != 37) = true := (byte_ne (show t[i] ≠ 37 by rw [hm]; decide)).2
  have q2 : (((t[i]).toNat : Int) != 42) = true := (byte_ne (show t[i] ≠ 42 by rw [hm]; decide)).2
  have q3 : (((t[i]).toNat : Int) != 43) = true := (byte_ne (show t[i] ≠ 43 by rw [hm]; decide)).2
  have q4 : (((t[i]).toNat : Int) != 33) = true := (byte_ne (show t[i] ≠ 33 by rw [hm]; decide)).2
  have q5 : (((t[i]).toNat : Int) != 35) = true := (byte_ne (show t[i] ≠ 35 by rw [hm]; decide)).2
  have q6 : (((t[i]).toNat : Int) != 36) = true := (byte_ne (show t[i] ≠ 36 by rw [hm]; decide)).2
  have q0 : (((t[i]).toNat : Int) != 38) = false := (byte_eq hm).2
  generalize hx : t[i] = c at HT h255 H1 q0 q1 q2 q3 q4 q5 q6
  clear hm
  have hl1 : ((t.length : Int) == 0) = false := beq_eq_false_iff_ne.2 (by omega)
  have z1 : ((i : Int) + 1).toNat = i + 1 := by omega
  cases low
  all_goals
    go_enter Tryd.func16, Tryd.ntmps16
    go_wp2_with (go_at_call 40; rw [H1.out]; refine (token_any [c] _ (by simp)).mono ?_; rintro e w' ⟨rfl, rfl⟩; rw [HT.out])
    go_ret
    exact ⟨rfl, (Below.refl _ _).alloc (Nat.le_refl _) _⟩

theorem written_mark_39 (t : Bs) (en bf i : Nat) (low : Bool) (w : World) (ht : t.length ≤ 1048576) (he : en ≤ 255) (hi : i < t.length) (hie : (en : Int) % (t.length : Int) = (i : Int)) (hm : t[i] = 39) :
    Calls Tryd.prog 16 #[.agg #[.string ⟨t.toArray⟩, .int .u8 en, .bool low, .int .u8 bf]] w fun e w' => e = .returned (.string ⟨t.toArray⟩) ∧ Below w.heap.size w w' := by
  have HT := Lib.hid (show tokenB [t[i]] = true by rw [hm]; rfl)
  have h255 := byte_lt t[i]
  have H1 := Lib.hid (take_one t i hi)
  have q1 : (((t[i]).toNat : Int) != 37) = true := (byte_ne (show t[i] ≠ 37 by rw [hm]; decide)).2
  have q2 : (((t[i]).toNat : Int) != 42) = true := (byte_ne (show t[i] ≠ 42 by rw [hm]; decide)).2
  have q3 : (((t[i]).toNat : Int) != 43) = true := (byte_ne (show t[i] ≠ 43 by rw [hm]; decide)).2
  have q4 : (((t[i]).toNat : Int) != 33) = true := (byte_ne (show t[i] ≠ 33 by rw [hm]; decide)).2
  have q5 : (((t[i]).toNat : Int) != 35) = true := (byte_ne (show t[i] ≠ 35 by rw [hm]; decide)).2
  have q6 : (((t[i]).toNat : Int) != 36) = true := (byte_ne (show t[i] ≠ 36 by rw [hm]; decide)).2
  have q7 : (((t[i]).toNat : Int) != 38) = true := (byte_ne (show t[i] ≠ 38 by rw [hm]; decide)).2
  have q0 : (((t[i]).toNat : Int) != 39) = false := (byte_eq hm).2
  generalize hx : t[i] = c at HT h255 H1 q0 q1 q2 q3 q4 q5 q6 q7
  clear hm
  have hl1 : ((t.length : Int) == 0) = false := beq_eq_false_iff_ne.2 (by omega)
  have z1 : ((i : Int) + 1).toNat = i + 1 := by omega
  cases low
  all_goals
    go_enter Tryd.func16, Tryd.ntmps16
    go_wp2_with (go_at_call 40; rw [H1.out]; refine (token_any [c] _ (by simp)).mono ?_; rintro e w' ⟨rfl, rfl⟩; rw [HT.out])
    go_ret
    exact ⟨rfl, (Below.refl _ _).alloc (Nat.le_refl _) _⟩

theorem written_mark_94 (t : Bs) (en bf i : Nat) (low : Bool) (w : World) (ht : t.length ≤ 1048576) (he : en ≤ 255) (hi : i < t.length) (hie : (en : Int) % (t.length : Int) = (i : Int)) (hm : t[i] = 94) :
    Calls Tryd.prog 16 #[.agg #[.string ⟨t.toArray⟩, .int .u8 en, .bool low, .int .u8 bf]] w fun e w' => e = .returned (.string ⟨t.toArray⟩) ∧ Below w.heap.size w w' := by
  have HT := Lib.hid (show tokenB [t[i]] = true by rw [hm]; rfl)
  have h255 := byte_lt t[i]
  have H1 := Lib.hid (take_one t i hi)
  have q1 : (((t[i]).toNat : Int) != 37) = true := (byte_ne (show t[i] ≠ 37 by rw [hm]; decide)).2
  have q2 : (((t[i]).toNat : Int) != 42) = true := (byte_ne (show t[i] ≠ 42 by rw [hm]; decide)).2
  have q3 : (((t[i]).toNat : Int) != 43) = true := (byte_ne (show t[i] ≠ 43 by rw [hm]; decide)).2
  have q4 : (((t[i]).toNat : Int) != 33) = true := (byte_ne (show t[i] ≠ 33 by rw [hm]; decide)).2
  have q5 : (((t[i]).toNat : Int) != 35) = true := (byte_ne (show t[i] ≠ 35 by rw [hm]; decide)).2
  have q6 : (((t[i]).toNat : Int) != 36) = true := (byte_ne (show t[i] ≠ 36 by rw [hm]; decide)).2
  have q7 : (((t[i]).toNat : Int) != 38) = true := (byte_ne (show t[i] ≠ 38 by rw [hm]; decide)).2
  have q8 : (((t[i]).toNat : Int) != 39) = true := (byte_ne (show t[i] ≠ 39 by rw [hm]; decide)).2
  have q0 : (((t[i]).toNat : Int) != 94) = false := (byte_eq hm).2
  generalize hx : t[i] = c at HT h255 H1 q0 q1 q2 q3 q4 q5 q6 q7 q8
  clear hm
  have hl1 : ((t.length : Int) == 0) = false := beq_eq_false_iff_ne.2 (by omega)
  have z1 : ((i : Int) + 1).toNat = i + 1 := by omega
  cases low
  all_goals
    go_enter Tryd.func16, Tryd.ntmps16
    go_wp2_with (go_at_call 40; rw [H1.out]; refine (token_any [c] _ (by simp)).mono ?_; rintro e w' ⟨rfl, rfl⟩; rw [HT.out])
    go_ret
    exact ⟨rfl, (Below.refl _ _).alloc (Nat.le_refl _) _⟩

theorem written_mark_96 (t : Bs) (en bf i : Nat) (low : Bool) (w : World) (ht : t.length ≤ 1048576) (he : en ≤ 255) (hi : i < t.length) (hie : (en : Int) % (t.length : Int) = (i : Int)) (hm : t[i] = 96) :
    Calls Tryd.prog 16 #[.agg #[.string ⟨t.toArray⟩, .int .u8 en, .bool low, .int .u8 bf]] w fun e w' => e = .returned (.string ⟨t.toArray⟩) ∧ Below w.heap.size w w' := by
  have HT := Lib.hid (show tokenB [t[i]] = true by rw [hm]; rfl)
  have h255 := byte_lt t[i]
  have H1 := Lib.hid (take_one t i hi)
  have q1 : (((t[i]).toNat : Int) != 37) = true := (byte_ne (show t[i] ≠ 37 by rw [hm]; decide)).2
  have q2 : (((t[i]).toNat : Int) != 42) = true := (byte_ne (show t[i] ≠ 42 by rw [hm]; decide)).2
  have q3 : (((t[i]).toNat : Int) != 43) = true := (byte_ne (show t[i] ≠ 43 by rw [hm]; decide)).2
  have q4 : (((t[i]).toNat : Int) != 33) = true := (byte_ne (show t[i] ≠ 33 by rw [hm]; decide)).2
  have q5 : (((t[i]).toNat : Int) != 35) = true := (byte_ne (show t[i] ≠ 35 by rw [hm]; decide)).2
  have q6 : (((t[i]).toNat : Int) != 36) = true := (byte_ne (show t[i] ≠ 36 by rw [hm]; decide)).2
  have q7 : (((t[i]).toNat : Int) != 38) = true := (byte_ne (show t[i] ≠ 38 by rw [hm]; decide)).2
  have q8 : (((t[i]).toNat : Int) != 39) = true := (byte_ne (show t[i] ≠ 39 by rw [hm]; decide)).2
  have q9 : (((t[i]).toNat : Int) != 94) = true := (byte_ne (show t[i] ≠ 94 by rw [hm]; decide)).2
  have q0 : (((t[i]).toNat : Int) != 96) = false := (byte_eq hm).2
  generalize hx : t[i] = c at HT h255 H1 q0 q1 q2 q3 q4 q5 q6 q7 q8 q9
  clear hm
  have hl1 : ((t.length : Int) == 0) = false := beq_eq_false_iff_ne.2 (by omega)
  have z1 : ((i : Int) + 1).toNat = i + 1 := by omega
  cases low
  all_goals
    go_enter Tryd.func16, Tryd.ntmps16
    go_wp2_with (go_at_call 40; rw [H1.out]; refine (token_any [c] _ (by simp)).mono ?_; rintro e w' ⟨rfl, rfl⟩; rw [HT.out])
    go_ret
    exact ⟨rfl, (Below.refl _ _).alloc (Nat.le_refl _) _⟩

theorem written_mark_124 (t : Bs) (en bf i : Nat) (low : Bool) (w : World) (ht : t.length ≤ 1048576) (he : en ≤ 255) (hi : i < t.length) (hie : (en : Int) % (t.length : Int) = (i : Int)) (hm : t[i] = 124) :
    Calls Tryd.prog 16 #[.agg #[.string ⟨t.toArray⟩, .int .u8 en, .bool low, .int .u8 bf]] w fun e w' => e = .returned (.string ⟨t.toArray⟩) ∧ Below w.heap.size w w' := by
  have HT := Lib.hid (show tokenB [t[i]] = true by rw [hm]; rfl)
  have h255 := byte_lt t[i]
  have H1 := Lib.hid (take_one t i hi)
  have q1 : (((t[i]).toNat : Int) != 37) = true := (byte_ne (show t[i] ≠ 37 by rw [hm]; decide)).2
  have q2 : (((t[i]).toNat : Int) != 42) = true := (byte_ne (show t[i] ≠ 42 by rw [hm]; decide)).2
  have q3 : (((t[i]).toNat : Int) != 43) = true := (byte_ne (show t[i] ≠ 43 by rw [hm]; decide)).2
  have q4 : (((t[i]).toNat : Int) != 33) = true := (byte_ne (show t[i] ≠ 33 by rw [hm]; decide)).2
  have q5 : (((t[i]).toNat : Int) != 35) = true := (byte_ne (show t[i] ≠ 35 by rw [hm]; decide)).2
  have q6 : (((t[i]).toNat : Int) != 36) = true := (byte_ne (show t[i] ≠ 36 by rw [hm]; decide)).2
  have q7 : (((t[i]).toNat : Int) != 38) = true := (byte_ne (show t[i] ≠ 38 by rw [hm]; decide)).2
  have q8 : (((t[i]).toNat : Int) != 39) = true := (byte_ne (show t[i] ≠ 39 by rw [hm]; decide)).2
  have q9 : (((t[i]).toNat : Int) != 94) = true := (byte_ne (show t[i] ≠ 94 by rw [hm]; decide)).2
  have q10 : (((t[i]).toNat : Int) != 96) = true := (byte_ne (show t[i] ≠ 96 by rw [hm]; decide)).2
  have q0 : (((t[i]).toNat : Int) != 124) = false := (byte_eq hm).2
  generalize hx : t[i] = c at HT h255 H1 q0 q1 q2 q3 q4 q5 q6 q7 q8 q9 q10
  clear hm
  have hl1 : ((t.length : Int) == 0) = false := beq_eq_false_iff_ne.2 (by omega)
  have z1 : ((i : Int) + 1).toNat = i + 1 := by omega
  cases low
  all_goals
    go_enter Tryd.func16, Tryd.ntmps16
    go_wp2_with (go_at_call 40; rw [H1.out]; refine (token_any [c] _ (by simp)).mono ?_; rintro e w' ⟨rfl, rfl⟩; rw [HT.out])
    go_ret
    exact ⟨rfl, (Below.refl _ _).alloc (Nat.le_refl _) _⟩

theorem written_tok (t : Bs) (en bf i : Nat) (low : Bool) (w : World) (ht : t.length ≤ 1048576) (he : en ≤ 255) (hi : i < t.length) (hie : (en : Int) % (t.length : Int) = (i : Int)) (hm : tokenB [t[i]] = false) :
    Calls Tryd.prog 16 #[.agg #[.string ⟨t.toArray⟩, .int .u8 en, .bool low, .int .u8 bf]] w fun e w' => e = .returned (.string ⟨t.toArray⟩) ∧ Below w.heap.size w w' := by
  have HT := Lib.hid hm
  have h255 := byte_lt t[i]
  have H1 := Lib.hid (take_one t i hi)
  generalize hx : t[i] = c at HT h255 H1
  clear hm
  have hl1 : ((t.length : Int) == 0) = false := beq_eq_false_iff_ne.2 (by omega)
  have z1 : ((i : Int) + 1).toNat = i + 1 := by omega
  cases low
  all_goals
    go_enter Tryd.func16, Tryd.ntmps16
    go_wp2_with (go_at_call 40; rw [H1.out]; refine (token_any [c] _ (by simp)).mono ?_; rintro e w' ⟨rfl, rfl⟩; rw [HT.out])
    go_ret
    exact ⟨rfl, (Below.refl _ _).alloc (Nat.le_refl _) _⟩

theorem written_any (t : Bs) (en bf : Nat) (low : Bool) (w : World) (ht : t.length ≤ 1048576) (he : en ≤ 255) :
    Calls Tryd.prog 16 #[.agg #[.string ⟨t.toArray⟩, .int .u8 en, .bool low, .int .u8 bf]] w fun e w' => e = .returned (.string ⟨(enc1 t (en % t.length) low).toArray⟩) ∧ Below w.heap.size w w' := by
  cases t with
  | nil => rw [enc1_nil]; exact written_nil en bf low w
  | cons b r =>
    generalize hT : b :: r = t at ht ⊢
    have hpos : 0 < t.length := by rw [← hT]; simp
    have hi : en % t.length < t.length := Nat.mod_lt _ hpos
    have hie : (en : Int) % (t.length : Int) = ((en % t.length : Nat) : Int) := by omega
    clear hT
    generalize en % t.length = i at hi hie ⊢
    cases hu : unresB (t[i]).toNat with
    | true =>
      cases low
      · exact written_yes_false t en bf i w ht he hi hie hu
      · exact written_yes_true t en bf i w ht he hi hie hu
    | false =>
      rw [enc1_no hi hu]
      by_cases hm : t[i] ∈ marksT
      · simp only [marksT, List.mem_cons, List.not_mem_nil, or_false] at hm
        rcases hm with hm | hm | hm | hm | hm | hm | hm | hm | hm | hm | hm
        · exact written_mark_37 t en bf i low w ht he hi hie hm
        · exact written_mark_42 t en bf i low w ht he hi hie hm
        · exact written_mark_43 t en bf i low w ht he hi hie hm
        · exact written_mark_33 t en bf i low w ht he hi hie hm
        · exact written_mark_35 t en bf i low w ht he hi hie hm
        · exact written_mark_36 t en bf i low w ht he hi hie hm
        · exact written_mark_38 t en bf i low w ht he hi hie hm
        · exact written_mark_39 t en bf i low w ht he hi hie hm
        · exact written_mark_94 t en bf i low w ht he hi hie hm
        · exact written_mark_96 t en bf i low w ht he hi hie hm
        · exact written_mark_124 t en bf i low w ht he hi hie hm
      · exact written_tok t en bf i low w ht he hi hie (by rw [token_one, hu]; simpa using hm)
end A1
end Go.Proofs.YthbjpekgiiflkaaDoor
