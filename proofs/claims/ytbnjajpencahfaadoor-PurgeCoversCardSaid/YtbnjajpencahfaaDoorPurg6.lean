/- Contract: purge.Format. Conditions: texts of at most 2^27 bytes; the variable words as the program's text lays it. -/
import Derived.Test.YtbnjajpencahfaaDoorPurg4
import Derived.Test.YtbnjajpencahfaaDoorSlib
import Derived.BigQuiet
namespace Go.Proofs.YtbnjajpencahfaaDoor
open Go.RowKit Pl Ad
attribute [local go_sem] ba_get ba_append ba_extract_end ba_extract_zero ba_extract
set_option maxRecDepth 100000
set_option maxHeartbeats 4000000
set_option linter.unusedVariables false
namespace A1

/-- The variable words. -/
structure WordsAt (w : World) : Prop where
  lt : 0 < w.heap.size
  c1 : w.cell? ⟨0, 1, none⟩ = some (.string ⟨([101, 120, 97, 99, 116] : Bs).toArray⟩)
  c2 : w.cell? ⟨0, 2, none⟩ = some (.string ⟨([112, 114, 101, 102, 105, 120] : Bs).toArray⟩)
  c3 : w.cell? ⟨0, 3, none⟩ = some (.string ⟨([116, 97, 103] : Bs).toArray⟩)
theorem WordsAt.below {w w' : World} (h : WordsAt w) (hb : Below w.heap.size w w') : WordsAt w' :=
  ⟨Nat.lt_of_lt_of_le h.lt hb.size, (hb.cell (p := ⟨0, 1, none⟩) h.lt).trans h.c1, (hb.cell (p := ⟨0, 2, none⟩) h.lt).trans h.c2, (hb.cell (p := ⟨0, 3, none⟩) h.lt).trans h.c3⟩
theorem decOf_eq (n : Nat) (h : n < 16) : Lib.decDigits n = decOf (n : Int) := by
  have g : ∀ m : Fin 16, Lib.decDigits m.val = decOf (m.val : Int) := by decide +kernel
  exact g ⟨n, h⟩
theorem decOf_len (t : Int) : (decOf t).length ≤ 2 := by unfold decOf; split <;> simp
theorem itoa_any (n : Nat) (h : n < 16) (w : World) :
    Calls Tryd.prog 18 #[.int .i64 n] w fun e w' => e = .returned (.string ⟨(decOf (n : Int)).toArray⟩) ∧ w = w' :=
  (Tryd.strconv_Itoa_small n (by omega) w).mono fun e w' hx => ⟨by rw [hx.1, decOf_eq n h], hx.2.symm⟩

theorem format_err (p : Pg) (w : World) (hr : Ready w) (hl : p.value.length ≤ 134217728) (hc : ¬ checkN p = 0) :
    Calls Tryd.prog 13 #[pgV p] w fun e w' => e = .returned (.tuple #[.string ⟨#[]⟩, .iface 44 (.int .i64 2)]) ∧ Below w.heap.size w w' := by
  have HC := Lib.hid (chkV_err (p := p) rfl hc)
  obtain ⟨k, t, v⟩ := p
  simp only at hl
  have HB := Lib.hid ((Below.refl w.heap.size w).alloc (Nat.le_refl _) (.cells #[.int .i64 k, .int .i64 t, .string ⟨v.toArray⟩] 30))
  have HRD := Lib.hid (hr.below HB.out)
  clear hc
  go_enter Tryd.func13, Tryd.ntmps13
  go_wp2_with (go_at_call 10; refine (check_any ⟨k, t, v⟩ _ HRD.out hl).mono ?_; rintro e w2 ⟨rfl, hb2⟩; rw [HC.out])
  go_ret2
  exact ⟨rfl, HB.out.trans (hb2.mono (by simp))⟩

theorem format_1 (n : Nat) (v : Bs) (w : World) (hr : Ready w) (hw : WordsAt w) (hl : v.length ≤ 134217728) (hn : n < 16) (hc : checkN ⟨1, n, v⟩ = 0) :
    Calls Tryd.prog 13 #[.agg #[.int .i64 1, .int .i64 n, .string ⟨v.toArray⟩]] w fun e w' => e = .returned (.tuple #[.string ⟨(fmtT ⟨1, n, v⟩).toArray⟩, .nilIface]) ∧ Below w.heap.size w w' := by
  have HC := Lib.hid (chkV_ok hc)
  have HF := Lib.hid (show fmtT ⟨1, n, v⟩ = [101, 120, 97, 99, 116] ++ 32 :: (decOf (n : Int) ++ 32 :: v) from rfl)
  have hdl := decOf_len (n : Int)
  have HX := Lib.hid (box3_new w 30 (.int .i64 1) (.int .i64 n) (.string ⟨v.toArray⟩))
  have HB := Lib.hid ((Below.refl w.heap.size w).alloc (Nat.le_refl _) (.cells #[.int .i64 1, .int .i64 n, .string ⟨v.toArray⟩] 30))
  have HRD := Lib.hid (hr.below HB.out)
  have HW := Lib.hid (hw.below HB.out)
  clear hc hw
  go_enter Tryd.func13, Tryd.ntmps13
  go_wp2_with (go_at_call 10; refine (check_any ⟨1, n, v⟩ _ HRD.out hl).mono ?_; rintro e w2 ⟨rfl, hb2⟩; rw [HC.out])
  have hX2 := HX.out.older hb2
  obtain ⟨⟨c0, c1, c2⟩, _, hz⟩ := hX2.facts
  obtain ⟨_, g1, g2, g3⟩ := HW.out.below hb2
  have HB2 := Lib.hid (HB.out.trans (hb2.mono (by simp)))
  clear hb2 hX2
  generalize hd : decOf (n : Int) = d at hdl HF
  have HD := Lib.hid hd
  clear hd
  go_quiet ((go_at_call 18; exact quiet_eq ((itoa_any n hn _).mono fun e w' hx => by rw [HD.out] at hx; exact hx)))
  go_wp2
  go_ret2
  exact ⟨by rw [HF.out]; simp, below_drewN HB2.out _⟩

theorem format_2 (n : Nat) (v : Bs) (w : World) (hr : Ready w) (hw : WordsAt w) (hl : v.length ≤ 134217728) (hn : n < 16) (hc : checkN ⟨2, n, v⟩ = 0) :
    Calls Tryd.prog 13 #[.agg #[.int .i64 2, .int .i64 n, .string ⟨v.toArray⟩]] w fun e w' => e = .returned (.tuple #[.string ⟨(fmtT ⟨2, n, v⟩).toArray⟩, .nilIface]) ∧ Below w.heap.size w w' := by
  have HC := Lib.hid (chkV_ok hc)
  have HF := Lib.hid (show fmtT ⟨2, n, v⟩ = [112, 114, 101, 102, 105, 120] ++ 32 :: (decOf (n : Int) ++ 32 :: v) from rfl)
  have hdl := decOf_len (n : Int)
  have HX := Lib.hid (box3_new w 30 (.int .i64 2) (.int .i64 n) (.string ⟨v.toArray⟩))
  have HB := Lib.hid ((Below.refl w.heap.size w).alloc (Nat.le_refl _) (.cells #[.int .i64 2, .int .i64 n, .string ⟨v.toArray⟩] 30))
  have HRD := Lib.hid (hr.below HB.out)
  have HW := Lib.hid (hw.below HB.out)
  clear hc hw
  go_enter Tryd.func13, Tryd.ntmps13
  go_wp2_with (go_at_call 10; refine (check_any ⟨2, n, v⟩ _ HRD.out hl).mono ?_; rintro e w2 ⟨rfl, hb2⟩; rw [HC.out])
  have hX2 := HX.out.older hb2
  obtain ⟨⟨c0, c1, c2⟩, _, hz⟩ := hX2.facts
  obtain ⟨_, g1, g2, g3⟩ := HW.out.below hb2
  have HB2 := Lib.hid (HB.out.trans (hb2.mono (by simp)))
  clear hb2 hX2
  generalize hd : decOf (n : Int) = d at hdl HF
  have HD := Lib.hid hd
  clear hd
  go_quiet ((go_at_call 18; exact quiet_eq ((itoa_any n hn _).mono fun e w' hx => by rw [HD.out] at hx; exact hx)))
  go_wp2
  go_ret2
  exact ⟨by rw [HF.out]; simp, below_drewN HB2.out _⟩

theorem format_3 (n : Nat) (v : Bs) (w : World) (hr : Ready w) (hw : WordsAt w) (hl : v.length ≤ 134217728) (hn : n < 16) (hc : checkN ⟨3, n, v⟩ = 0) :
    Calls Tryd.prog 13 #[.agg #[.int .i64 3, .int .i64 n, .string ⟨v.toArray⟩]] w fun e w' => e = .returned (.tuple #[.string ⟨(fmtT ⟨3, n, v⟩).toArray⟩, .nilIface]) ∧ Below w.heap.size w w' := by
  have HC := Lib.hid (chkV_ok hc)
  have HF := Lib.hid (show fmtT ⟨3, n, v⟩ = [116, 97, 103] ++ 32 :: (decOf (n : Int) ++ 32 :: v) from rfl)
  have hdl := decOf_len (n : Int)
  have HX := Lib.hid (box3_new w 30 (.int .i64 3) (.int .i64 n) (.string ⟨v.toArray⟩))
  have HB := Lib.hid ((Below.refl w.heap.size w).alloc (Nat.le_refl _) (.cells #[.int .i64 3, .int .i64 n, .string ⟨v.toArray⟩] 30))
  have HRD := Lib.hid (hr.below HB.out)
  have HW := Lib.hid (hw.below HB.out)
  clear hc hw
  go_enter Tryd.func13, Tryd.ntmps13
  go_wp2_with (go_at_call 10; refine (check_any ⟨3, n, v⟩ _ HRD.out hl).mono ?_; rintro e w2 ⟨rfl, hb2⟩; rw [HC.out])
  have hX2 := HX.out.older hb2
  obtain ⟨⟨c0, c1, c2⟩, _, hz⟩ := hX2.facts
  obtain ⟨_, g1, g2, g3⟩ := HW.out.below hb2
  have HB2 := Lib.hid (HB.out.trans (hb2.mono (by simp)))
  clear hb2 hX2
  generalize hd : decOf (n : Int) = d at hdl HF
  have HD := Lib.hid hd
  clear hd
  go_quiet ((go_at_call 18; exact quiet_eq ((itoa_any n hn _).mono fun e w' hx => by rw [HD.out] at hx; exact hx)))
  go_wp2
  go_ret2
  exact ⟨by rw [HF.out]; simp, below_drewN HB2.out _⟩

theorem format_ok (p : Pg) (w : World) (hr : Ready w) (hw : WordsAt w) (hl : p.value.length ≤ 134217728) (hc : checkN p = 0) :
    Calls Tryd.prog 13 #[pgV p] w fun e w' => e = .returned (.tuple #[.string ⟨(fmtT p).toArray⟩, .nilIface]) ∧ Below w.heap.size w w' := by
  obtain ⟨k, t, v⟩ := p
  obtain ⟨hk, ht, _⟩ := checkN_ok hc
  simp only at hk ht hl
  obtain ⟨n, rfl⟩ := Int.eq_ofNat_of_zero_le ht.1
  have ck : k = 1 ∨ k = 2 ∨ k = 3 := by omega
  rcases ck with rfl | rfl | rfl
  · exact format_1 n v w hr hw hl (by omega) hc
  · exact format_2 n v w hr hw hl (by omega) hc
  · exact format_3 n v w hr hw hl (by omega) hc
end A1
end Go.Proofs.YtbnjajpencahfaaDoor
