/- Contracts: the reference's Check of a purge. Conditions: texts of at most 2^27 bytes. -/
import Derived.Test.YtnppicekfjdefaaGreatDoorAddrG
import Derived.Test.YtnppicekfjdefaaGreatDoorPurg1
namespace Go.Proofs.YtnppicekfjdefaaGreatDoor
open Go.RowKit Pl Ad
attribute [local go_sem] ba_get ba_append ba_extract_end ba_extract_zero ba_extract
set_option maxRecDepth 100000
set_option maxHeartbeats 4000000
set_option linter.unusedVariables false
namespace A1

/-- Block R holds three cells. -/
def Box3 (w : World) (R T : Nat) (v0 v1 v2 : Value) : Prop := w.heap[R]? = some (.cells #[v0, v1, v2] T (0, 0))
theorem Box3.facts {w : World} {R T : Nat} {v0 v1 v2 : Value} (h : Box3 w R T v0 v1 v2) :
    (w.cell? ⟨R, 0, none⟩ = some v0 ∧ w.cell? ⟨R, 1, none⟩ = some v1 ∧ w.cell? ⟨R, 2, none⟩ = some v2) ∧ (w.frozen? ⟨R, 0, none⟩ = false ∧ w.frozen? ⟨R, 1, none⟩ = false ∧ w.frozen? ⟨R, 2, none⟩ = false) ∧ R < w.heap.size := by
  refine ⟨⟨?_, ?_, ?_⟩, ⟨?_, ?_, ?_⟩, (Array.getElem?_eq_some_iff.1 h).1⟩
  all_goals first
    | (rw [cell_of_row w R _ _ T _ h]; rfl)
    | (unfold World.frozen?; rw [h]; rfl)
theorem Box3.below {w w' : World} {R T B : Nat} {v0 v1 v2 : Value} (h : Box3 w R T v0 v1 v2) (hb : Below B w w') (hR : R < B) : Box3 w' R T v0 v1 v2 := (hb.block R hR).trans h
theorem box3_new (w : World) (T : Nat) (v0 v1 v2 : Value) : Box3 (w.alloc (.cells #[v0, v1, v2] T)) w.heap.size T v0 v1 v2 := heap_alloc_new w _
theorem Box3.drew {w : World} {R T : Nat} {v0 v1 v2 : Value} (h : Box3 w R T v0 v1 v2) : Box3 w.drew R T v0 v1 v2 := h
theorem Box3.alloc {w : World} {R T : Nat} {v0 v1 v2 : Value} (h : Box3 w R T v0 v1 v2) (o : Obj) : Box3 (w.alloc o) R T v0 v1 v2 := h.below ((Below.refl _ _).alloc (Nat.le_refl _) o) h.facts.2.2
theorem Box3.older {w w' : World} {R T : Nat} {v0 v1 v2 : Value} (h : Box3 w R T v0 v1 v2) (hb : Below w.heap.size w w') : Box3 w' R T v0 v1 v2 := h.below hb h.facts.2.2
@[reducible] def pgV (p : Pg) : Value := .agg #[.int .i64 p.kind, .int .i64 p.tenant, .string ⟨p.value.toArray⟩]

theorem refCheck_k1 (k t : Int) (v : Bs) (w : World) (h : k < 1) :
    Calls Tryz.prog 39 #[.agg #[.int .i64 k, .int .i64 t, .string ⟨v.toArray⟩]] w fun e w' => e = .returned (.int .i64 (checkN ⟨k, t, v⟩)) ∧ Below w.heap.size w w' := by
  have HC := Lib.hid (show checkN ⟨k, t, v⟩ = 2 from checkN_kind (.inl h))
  go_enter Tryz.func39, Tryz.ntmps39
  go_wp2_with fail
  go_ret
  exact ⟨ret_int HC.out.symm, (Below.refl _ _).alloc (Nat.le_refl _) _⟩

theorem refCheck_k2 (k t : Int) (v : Bs) (w : World) (h0 : 1 ≤ k) (h : 3 < k) :
    Calls Tryz.prog 39 #[.agg #[.int .i64 k, .int .i64 t, .string ⟨v.toArray⟩]] w fun e w' => e = .returned (.int .i64 (checkN ⟨k, t, v⟩)) ∧ Below w.heap.size w w' := by
  have HC := Lib.hid (show checkN ⟨k, t, v⟩ = 2 from checkN_kind (.inr h))
  go_enter Tryz.func39, Tryz.ntmps39
  go_wp2_with fail
  go_ret
  exact ⟨ret_int HC.out.symm, (Below.refl _ _).alloc (Nat.le_refl _) _⟩

theorem refCheck_t1 (k t : Int) (v : Bs) (w : World) (h0 : 1 ≤ k) (h1 : k ≤ 3) (h : t < 0) :
    Calls Tryz.prog 39 #[.agg #[.int .i64 k, .int .i64 t, .string ⟨v.toArray⟩]] w fun e w' => e = .returned (.int .i64 (checkN ⟨k, t, v⟩)) ∧ Below w.heap.size w w' := by
  have HC := Lib.hid (show checkN ⟨k, t, v⟩ = 1 from checkN_tenant (by show ¬ (k < 1 ∨ 3 < k); omega) (.inl h))
  go_enter Tryz.func39, Tryz.ntmps39
  go_wp2_with fail
  go_ret
  exact ⟨ret_int HC.out.symm, (Below.refl _ _).alloc (Nat.le_refl _) _⟩

theorem refCheck_t2 (k t : Int) (v : Bs) (w : World) (h0 : 1 ≤ k) (h1 : k ≤ 3) (h2 : 0 ≤ t) (h : 16 ≤ t) :
    Calls Tryz.prog 39 #[.agg #[.int .i64 k, .int .i64 t, .string ⟨v.toArray⟩]] w fun e w' => e = .returned (.int .i64 (checkN ⟨k, t, v⟩)) ∧ Below w.heap.size w w' := by
  have HC := Lib.hid (show checkN ⟨k, t, v⟩ = 1 from checkN_tenant (by show ¬ (k < 1 ∨ 3 < k); omega) (.inr h))
  go_enter Tryz.func39, Tryz.ntmps39
  go_wp2_with fail
  go_ret
  exact ⟨ret_int HC.out.symm, (Below.refl _ _).alloc (Nat.le_refl _) _⟩

theorem refCheck_1_n (t : Int) (v : Bs) (w : World) (h2 : 0 ≤ t) (h3 : t < 16) (hl : v.length ≤ 134217728) (hr : readL v = none) :
    Calls Tryz.prog 39 #[.agg #[.int .i64 1, .int .i64 t, .string ⟨v.toArray⟩]] w fun e w' => e = .returned (.int .i64 (checkN ⟨1, t, v⟩)) ∧ Below w.heap.size w w' := by
  have HC := Lib.hid (show checkN ⟨1, t, v⟩ = 2 from by rw [checkN_value (by show ¬ ((1 : Int) < 1 ∨ (3 : Int) < 1); omega) (by show ¬ (t < 0 ∨ 16 ≤ t); omega), valueB_none (by show ¬ ((1 : Int) = 3); omega) hr]; rfl)
  have HR := Lib.hid hr
  have HX := Lib.hid (box3_new w 82 (.int .i64 1) (.int .i64 t) (.string ⟨v.toArray⟩))
  have HB := Lib.hid ((Below.refl w.heap.size w).alloc (Nat.le_refl _) (.cells #[.int .i64 1, .int .i64 t, .string ⟨v.toArray⟩] 82))
  clear hr
  go_enter Tryz.func39, Tryz.ntmps39
  go_wp2_with fail
  refine (refRead_no v _ hl HR.out).mono ?_
  rintro e w1 ⟨rfl, hb1⟩
  have hX1 := HX.out.older hb1
  obtain ⟨⟨c0, c1, c2⟩, _, hz⟩ := hX1.facts
  have HB1 := Lib.hid (HB.out.trans (hb1.mono (by simp)))
  clear hb1
  go_wp2_with fail
  go_ret
  exact ⟨ret_int HC.out.symm, HB1.out.alloc (by omega) _⟩

theorem refCheck_1_t (ah ap aq : Bs) (t : Int) (v : Bs) (w : World) (h2 : 0 ≤ t) (h3 : t < 16) (hl : v.length ≤ 134217728) (hr : readL v = some ⟨ah, ap, aq, true⟩) :
    Calls Tryz.prog 39 #[.agg #[.int .i64 1, .int .i64 t, .string ⟨v.toArray⟩]] w fun e w' => e = .returned (.int .i64 (checkN ⟨1, t, v⟩)) ∧ Below w.heap.size w w' := by
  have HC := Lib.hid (show checkN ⟨1, t, v⟩ = 0 from by rw [checkN_value (by show ¬ ((1 : Int) < 1 ∨ (3 : Int) < 1); omega) (by show ¬ (t < 0 ∨ 16 ≤ t); omega), valueB_some (by show ¬ ((1 : Int) = 3); omega) hr]; rfl)
  have HR := Lib.hid hr
  have HX := Lib.hid (box3_new w 82 (.int .i64 1) (.int .i64 t) (.string ⟨v.toArray⟩))
  have HB := Lib.hid ((Below.refl w.heap.size w).alloc (Nat.le_refl _) (.cells #[.int .i64 1, .int .i64 t, .string ⟨v.toArray⟩] 82))
  clear hr
  go_enter Tryz.func39, Tryz.ntmps39
  go_wp2_with fail
  refine (refRead_yes v _ _ hl HR.out).mono ?_
  rintro e w1 ⟨rfl, hb1⟩
  have hX1 := HX.out.older hb1
  obtain ⟨⟨c0, c1, c2⟩, _, hz⟩ := hX1.facts
  have HB1 := Lib.hid (HB.out.trans (hb1.mono (by simp)))
  clear hb1
  go_wp2_with fail
  go_ret
  exact ⟨ret_int HC.out.symm, HB1.out.alloc (by omega) _⟩

theorem refCheck_1_f (ah ap aq : Bs) (t : Int) (v : Bs) (w : World) (h2 : 0 ≤ t) (h3 : t < 16) (hl : v.length ≤ 134217728) (hr : readL v = some ⟨ah, ap, aq, false⟩) :
    Calls Tryz.prog 39 #[.agg #[.int .i64 1, .int .i64 t, .string ⟨v.toArray⟩]] w fun e w' => e = .returned (.int .i64 (checkN ⟨1, t, v⟩)) ∧ Below w.heap.size w w' := by
  have HC := Lib.hid (show checkN ⟨1, t, v⟩ = 0 from by rw [checkN_value (by show ¬ ((1 : Int) < 1 ∨ (3 : Int) < 1); omega) (by show ¬ (t < 0 ∨ 16 ≤ t); omega), valueB_some (by show ¬ ((1 : Int) = 3); omega) hr]; rfl)
  have HR := Lib.hid hr
  have HX := Lib.hid (box3_new w 82 (.int .i64 1) (.int .i64 t) (.string ⟨v.toArray⟩))
  have HB := Lib.hid ((Below.refl w.heap.size w).alloc (Nat.le_refl _) (.cells #[.int .i64 1, .int .i64 t, .string ⟨v.toArray⟩] 82))
  clear hr
  go_enter Tryz.func39, Tryz.ntmps39
  go_wp2_with fail
  refine (refRead_yes v _ _ hl HR.out).mono ?_
  rintro e w1 ⟨rfl, hb1⟩
  have hX1 := HX.out.older hb1
  obtain ⟨⟨c0, c1, c2⟩, _, hz⟩ := hX1.facts
  have HB1 := Lib.hid (HB.out.trans (hb1.mono (by simp)))
  clear hb1
  go_wp2_with fail
  go_ret
  exact ⟨ret_int HC.out.symm, HB1.out.alloc (by omega) _⟩

theorem refCheck_2_n (t : Int) (v : Bs) (w : World) (h2 : 0 ≤ t) (h3 : t < 16) (hl : v.length ≤ 134217728) (hr : readL v = none) :
    Calls Tryz.prog 39 #[.agg #[.int .i64 2, .int .i64 t, .string ⟨v.toArray⟩]] w fun e w' => e = .returned (.int .i64 (checkN ⟨2, t, v⟩)) ∧ Below w.heap.size w w' := by
  have HC := Lib.hid (show checkN ⟨2, t, v⟩ = 2 from by rw [checkN_value (by show ¬ ((2 : Int) < 1 ∨ (3 : Int) < 2); omega) (by show ¬ (t < 0 ∨ 16 ≤ t); omega), valueB_none (by show ¬ ((2 : Int) = 3); omega) hr]; rfl)
  have HR := Lib.hid hr
  have HX := Lib.hid (box3_new w 82 (.int .i64 2) (.int .i64 t) (.string ⟨v.toArray⟩))
  have HB := Lib.hid ((Below.refl w.heap.size w).alloc (Nat.le_refl _) (.cells #[.int .i64 2, .int .i64 t, .string ⟨v.toArray⟩] 82))
  clear hr
  go_enter Tryz.func39, Tryz.ntmps39
  go_wp2_with fail
  refine (refRead_no v _ hl HR.out).mono ?_
  rintro e w1 ⟨rfl, hb1⟩
  have hX1 := HX.out.older hb1
  obtain ⟨⟨c0, c1, c2⟩, _, hz⟩ := hX1.facts
  have HB1 := Lib.hid (HB.out.trans (hb1.mono (by simp)))
  clear hb1
  go_wp2_with fail
  go_ret
  exact ⟨ret_int HC.out.symm, HB1.out.alloc (by omega) _⟩

theorem refCheck_2_t (ah ap aq : Bs) (t : Int) (v : Bs) (w : World) (h2 : 0 ≤ t) (h3 : t < 16) (hl : v.length ≤ 134217728) (hr : readL v = some ⟨ah, ap, aq, true⟩) :
    Calls Tryz.prog 39 #[.agg #[.int .i64 2, .int .i64 t, .string ⟨v.toArray⟩]] w fun e w' => e = .returned (.int .i64 (checkN ⟨2, t, v⟩)) ∧ Below w.heap.size w w' := by
  have HC := Lib.hid (show checkN ⟨2, t, v⟩ = 2 from by rw [checkN_value (by show ¬ ((2 : Int) < 1 ∨ (3 : Int) < 2); omega) (by show ¬ (t < 0 ∨ 16 ≤ t); omega), valueB_some (by show ¬ ((2 : Int) = 3); omega) hr]; rfl)
  have HR := Lib.hid hr
  have HX := Lib.hid (box3_new w 82 (.int .i64 2) (.int .i64 t) (.string ⟨v.toArray⟩))
  have HB := Lib.hid ((Below.refl w.heap.size w).alloc (Nat.le_refl _) (.cells #[.int .i64 2, .int .i64 t, .string ⟨v.toArray⟩] 82))
  clear hr
  go_enter Tryz.func39, Tryz.ntmps39
  go_wp2_with fail
  refine (refRead_yes v _ _ hl HR.out).mono ?_
  rintro e w1 ⟨rfl, hb1⟩
  have hX1 := HX.out.older hb1
  obtain ⟨⟨c0, c1, c2⟩, _, hz⟩ := hX1.facts
  have HB1 := Lib.hid (HB.out.trans (hb1.mono (by simp)))
  clear hb1
  go_wp2_with fail
  go_ret
  exact ⟨ret_int HC.out.symm, HB1.out.alloc (by omega) _⟩

theorem refCheck_2_f (ah ap aq : Bs) (t : Int) (v : Bs) (w : World) (h2 : 0 ≤ t) (h3 : t < 16) (hl : v.length ≤ 134217728) (hr : readL v = some ⟨ah, ap, aq, false⟩) :
    Calls Tryz.prog 39 #[.agg #[.int .i64 2, .int .i64 t, .string ⟨v.toArray⟩]] w fun e w' => e = .returned (.int .i64 (checkN ⟨2, t, v⟩)) ∧ Below w.heap.size w w' := by
  have HC := Lib.hid (show checkN ⟨2, t, v⟩ = 0 from by rw [checkN_value (by show ¬ ((2 : Int) < 1 ∨ (3 : Int) < 2); omega) (by show ¬ (t < 0 ∨ 16 ≤ t); omega), valueB_some (by show ¬ ((2 : Int) = 3); omega) hr]; rfl)
  have HR := Lib.hid hr
  have HX := Lib.hid (box3_new w 82 (.int .i64 2) (.int .i64 t) (.string ⟨v.toArray⟩))
  have HB := Lib.hid ((Below.refl w.heap.size w).alloc (Nat.le_refl _) (.cells #[.int .i64 2, .int .i64 t, .string ⟨v.toArray⟩] 82))
  clear hr
  go_enter Tryz.func39, Tryz.ntmps39
  go_wp2_with fail
  refine (refRead_yes v _ _ hl HR.out).mono ?_
  rintro e w1 ⟨rfl, hb1⟩
  have hX1 := HX.out.older hb1
  obtain ⟨⟨c0, c1, c2⟩, _, hz⟩ := hX1.facts
  have HB1 := Lib.hid (HB.out.trans (hb1.mono (by simp)))
  clear hb1
  go_wp2_with fail
  go_ret
  exact ⟨ret_int HC.out.symm, HB1.out.alloc (by omega) _⟩

theorem refCheck_3_ng (t : Int) (v : Bs) (w : World) (h2 : 0 ≤ t) (h3 : t < 16) (hl : v.length ≤ 134217728) (hr : readL v = none) (hg : goodB v = true) :
    Calls Tryz.prog 39 #[.agg #[.int .i64 3, .int .i64 t, .string ⟨v.toArray⟩]] w fun e w' => e = .returned (.int .i64 (checkN ⟨3, t, v⟩)) ∧ Below w.heap.size w w' := by
  have HC := Lib.hid (show checkN ⟨3, t, v⟩ = 0 from by rw [checkN_value (by show ¬ ((3 : Int) < 1 ∨ (3 : Int) < 3); omega) (by show ¬ (t < 0 ∨ 16 ≤ t); omega), valueB_tag rfl, hg]; rfl)
  have HR := Lib.hid hr
  have HG := Lib.hid hg
  have HX := Lib.hid (box3_new w 82 (.int .i64 3) (.int .i64 t) (.string ⟨v.toArray⟩))
  have HB := Lib.hid ((Below.refl w.heap.size w).alloc (Nat.le_refl _) (.cells #[.int .i64 3, .int .i64 t, .string ⟨v.toArray⟩] 82))
  clear hr hg
  go_enter Tryz.func39, Tryz.ntmps39
  go_wp2_with fail
  refine (refRead_no v _ hl HR.out).mono ?_
  rintro e w1 ⟨rfl, hb1⟩
  have hX1 := HX.out.older hb1
  obtain ⟨⟨c0, c1, c2⟩, _, hz⟩ := hX1.facts
  have HB1 := Lib.hid (HB.out.trans (hb1.mono (by simp)))
  clear hb1
  go_wp2_with (go_at_call 53; refine (refTag_any v _ (by omega)).mono ?_; rintro e w2 ⟨rfl, rfl⟩; rw [HG.out])
  go_ret
  exact ⟨ret_int HC.out.symm, HB1.out.alloc (by omega) _⟩

theorem refCheck_3_nb (t : Int) (v : Bs) (w : World) (h2 : 0 ≤ t) (h3 : t < 16) (hl : v.length ≤ 134217728) (hr : readL v = none) (hg : goodB v = false) :
    Calls Tryz.prog 39 #[.agg #[.int .i64 3, .int .i64 t, .string ⟨v.toArray⟩]] w fun e w' => e = .returned (.int .i64 (checkN ⟨3, t, v⟩)) ∧ Below w.heap.size w w' := by
  have HC := Lib.hid (show checkN ⟨3, t, v⟩ = 2 from by rw [checkN_value (by show ¬ ((3 : Int) < 1 ∨ (3 : Int) < 3); omega) (by show ¬ (t < 0 ∨ 16 ≤ t); omega), valueB_tag rfl, hg]; rfl)
  have HR := Lib.hid hr
  have HG := Lib.hid hg
  have HX := Lib.hid (box3_new w 82 (.int .i64 3) (.int .i64 t) (.string ⟨v.toArray⟩))
  have HB := Lib.hid ((Below.refl w.heap.size w).alloc (Nat.le_refl _) (.cells #[.int .i64 3, .int .i64 t, .string ⟨v.toArray⟩] 82))
  clear hr hg
  go_enter Tryz.func39, Tryz.ntmps39
  go_wp2_with fail
  refine (refRead_no v _ hl HR.out).mono ?_
  rintro e w1 ⟨rfl, hb1⟩
  have hX1 := HX.out.older hb1
  obtain ⟨⟨c0, c1, c2⟩, _, hz⟩ := hX1.facts
  have HB1 := Lib.hid (HB.out.trans (hb1.mono (by simp)))
  clear hb1
  go_wp2_with (go_at_call 53; refine (refTag_any v _ (by omega)).mono ?_; rintro e w2 ⟨rfl, rfl⟩; rw [HG.out])
  go_ret
  exact ⟨ret_int HC.out.symm, HB1.out.alloc (by omega) _⟩

theorem refCheck_3_tg (ah ap aq : Bs) (t : Int) (v : Bs) (w : World) (h2 : 0 ≤ t) (h3 : t < 16) (hl : v.length ≤ 134217728) (hr : readL v = some ⟨ah, ap, aq, true⟩) (hg : goodB v = true) :
    Calls Tryz.prog 39 #[.agg #[.int .i64 3, .int .i64 t, .string ⟨v.toArray⟩]] w fun e w' => e = .returned (.int .i64 (checkN ⟨3, t, v⟩)) ∧ Below w.heap.size w w' := by
  have HC := Lib.hid (show checkN ⟨3, t, v⟩ = 0 from by rw [checkN_value (by show ¬ ((3 : Int) < 1 ∨ (3 : Int) < 3); omega) (by show ¬ (t < 0 ∨ 16 ≤ t); omega), valueB_tag rfl, hg]; rfl)
  have HR := Lib.hid hr
  have HG := Lib.hid hg
  have HX := Lib.hid (box3_new w 82 (.int .i64 3) (.int .i64 t) (.string ⟨v.toArray⟩))
  have HB := Lib.hid ((Below.refl w.heap.size w).alloc (Nat.le_refl _) (.cells #[.int .i64 3, .int .i64 t, .string ⟨v.toArray⟩] 82))
  clear hr hg
  go_enter Tryz.func39, Tryz.ntmps39
  go_wp2_with fail
  refine (refRead_yes v _ _ hl HR.out).mono ?_
  rintro e w1 ⟨rfl, hb1⟩
  have hX1 := HX.out.older hb1
  obtain ⟨⟨c0, c1, c2⟩, _, hz⟩ := hX1.facts
  have HB1 := Lib.hid (HB.out.trans (hb1.mono (by simp)))
  clear hb1
  go_wp2_with (go_at_call 53; refine (refTag_any v _ (by omega)).mono ?_; rintro e w2 ⟨rfl, rfl⟩; rw [HG.out])
  go_ret
  exact ⟨ret_int HC.out.symm, HB1.out.alloc (by omega) _⟩

theorem refCheck_3_tb (ah ap aq : Bs) (t : Int) (v : Bs) (w : World) (h2 : 0 ≤ t) (h3 : t < 16) (hl : v.length ≤ 134217728) (hr : readL v = some ⟨ah, ap, aq, true⟩) (hg : goodB v = false) :
    Calls Tryz.prog 39 #[.agg #[.int .i64 3, .int .i64 t, .string ⟨v.toArray⟩]] w fun e w' => e = .returned (.int .i64 (checkN ⟨3, t, v⟩)) ∧ Below w.heap.size w w' := by
  have HC := Lib.hid (show checkN ⟨3, t, v⟩ = 2 from by rw [checkN_value (by show ¬ ((3 : Int) < 1 ∨ (3 : Int) < 3); omega) (by show ¬ (t < 0 ∨ 16 ≤ t); omega), valueB_tag rfl, hg]; rfl)
  have HR := Lib.hid hr
  have HG := Lib.hid hg
  have HX := Lib.hid (box3_new w 82 (.int .i64 3) (.int .i64 t) (.string ⟨v.toArray⟩))
  have HB := Lib.hid ((Below.refl w.heap.size w).alloc (Nat.le_refl _) (.cells #[.int .i64 3, .int .i64 t, .string ⟨v.toArray⟩] 82))
  clear hr hg
  go_enter Tryz.func39, Tryz.ntmps39
  go_wp2_with fail
  refine (refRead_yes v _ _ hl HR.out).mono ?_
  rintro e w1 ⟨rfl, hb1⟩
  have hX1 := HX.out.older hb1
  obtain ⟨⟨c0, c1, c2⟩, _, hz⟩ := hX1.facts
  have HB1 := Lib.hid (HB.out.trans (hb1.mono (by simp)))
  clear hb1
  go_wp2_with (go_at_call 53; refine (refTag_any v _ (by omega)).mono ?_; rintro e w2 ⟨rfl, rfl⟩; rw [HG.out])
  go_ret
  exact ⟨ret_int HC.out.symm, HB1.out.alloc (by omega) _⟩

theorem refCheck_3_fg (ah ap aq : Bs) (t : Int) (v : Bs) (w : World) (h2 : 0 ≤ t) (h3 : t < 16) (hl : v.length ≤ 134217728) (hr : readL v = some ⟨ah, ap, aq, false⟩) (hg : goodB v = true) :
    Calls Tryz.prog 39 #[.agg #[.int .i64 3, .int .i64 t, .string ⟨v.toArray⟩]] w fun e w' => e = .returned (.int .i64 (checkN ⟨3, t, v⟩)) ∧ Below w.heap.size w w' := by
  have HC := Lib.hid (show checkN ⟨3, t, v⟩ = 0 from by rw [checkN_value (by show ¬ ((3 : Int) < 1 ∨ (3 : Int) < 3); omega) (by show ¬ (t < 0 ∨ 16 ≤ t); omega), valueB_tag rfl, hg]; rfl)
  have HR := Lib.hid hr
  have HG := Lib.hid hg
  have HX := Lib.hid (box3_new w 82 (.int .i64 3) (.int .i64 t) (.string ⟨v.toArray⟩))
  have HB := Lib.hid ((Below.refl w.heap.size w).alloc (Nat.le_refl _) (.cells #[.int .i64 3, .int .i64 t, .string ⟨v.toArray⟩] 82))
  clear hr hg
  go_enter Tryz.func39, Tryz.ntmps39
  go_wp2_with fail
  refine (refRead_yes v _ _ hl HR.out).mono ?_
  rintro e w1 ⟨rfl, hb1⟩
  have hX1 := HX.out.older hb1
  obtain ⟨⟨c0, c1, c2⟩, _, hz⟩ := hX1.facts
  have HB1 := Lib.hid (HB.out.trans (hb1.mono (by simp)))
  clear hb1
  go_wp2_with (go_at_call 53; refine (refTag_any v _ (by omega)).mono ?_; rintro e w2 ⟨rfl, rfl⟩; rw [HG.out])
  go_ret
  exact ⟨ret_int HC.out.symm, HB1.out.alloc (by omega) _⟩

theorem refCheck_3_fb (ah ap aq : Bs) (t : Int) (v : Bs) (w : World) (h2 : 0 ≤ t) (h3 : t < 16) (hl : v.length ≤ 134217728) (hr : readL v = some ⟨ah, ap, aq, false⟩) (hg : goodB v = false) :
    Calls Tryz.prog 39 #[.agg #[.int .i64 3, .int .i64 t, .string ⟨v.toArray⟩]] w fun e w' => e = .returned (.int .i64 (checkN ⟨3, t, v⟩)) ∧ Below w.heap.size w w' := by
  have HC := Lib.hid (show checkN ⟨3, t, v⟩ = 2 from by rw [checkN_value (by show ¬ ((3 : Int) < 1 ∨ (3 : Int) < 3); omega) (by show ¬ (t < 0 ∨ 16 ≤ t); omega), valueB_tag rfl, hg]; rfl)
  have HR := Lib.hid hr
  have HG := Lib.hid hg
  have HX := Lib.hid (box3_new w 82 (.int .i64 3) (.int .i64 t) (.string ⟨v.toArray⟩))
  have HB := Lib.hid ((Below.refl w.heap.size w).alloc (Nat.le_refl _) (.cells #[.int .i64 3, .int .i64 t, .string ⟨v.toArray⟩] 82))
  clear hr hg
  go_enter Tryz.func39, Tryz.ntmps39
  go_wp2_with fail
  refine (refRead_yes v _ _ hl HR.out).mono ?_
  rintro e w1 ⟨rfl, hb1⟩
  have hX1 := HX.out.older hb1
  obtain ⟨⟨c0, c1, c2⟩, _, hz⟩ := hX1.facts
  have HB1 := Lib.hid (HB.out.trans (hb1.mono (by simp)))
  clear hb1
  go_wp2_with (go_at_call 53; refine (refTag_any v _ (by omega)).mono ?_; rintro e w2 ⟨rfl, rfl⟩; rw [HG.out])
  go_ret
  exact ⟨ret_int HC.out.symm, HB1.out.alloc (by omega) _⟩

theorem refCheck_any (p : Pg) (w : World) (hl : p.value.length ≤ 134217728) :
    Calls Tryz.prog 39 #[pgV p] w fun e w' => e = .returned (.int .i64 (checkN p)) ∧ Below w.heap.size w w' := by
  obtain ⟨k, t, v⟩ := p
  simp only at hl
  by_cases h0 : k < 1
  · exact refCheck_k1 k t v w h0
  by_cases h1 : 3 < k
  · exact refCheck_k2 k t v w (by omega) h1
  by_cases h2 : t < 0
  · exact refCheck_t1 k t v w (by omega) (by omega) h2
  by_cases h3 : 16 ≤ t
  · exact refCheck_t2 k t v w (by omega) (by omega) (by omega) h3
  have ck : k = 1 ∨ k = 2 ∨ k = 3 := by omega
  have g2 : 0 ≤ t := by omega
  have g3 : t < 16 := by omega
  cases hr : readL v with
  | none =>
    rcases ck with rfl | rfl | rfl
    · exact refCheck_1_n t v w g2 g3 hl hr
    · exact refCheck_2_n t v w g2 g3 hl hr
    · cases hg : goodB v with
      | true => exact refCheck_3_ng t v w g2 g3 hl hr hg
      | false => exact refCheck_3_nb t v w g2 g3 hl hr hg
  | some a =>
    obtain ⟨ah, ap, aq, ab⟩ := a
    cases ab with
    | true =>
      rcases ck with rfl | rfl | rfl
      · exact refCheck_1_t ah ap aq t v w g2 g3 hl hr
      · exact refCheck_2_t ah ap aq t v w g2 g3 hl hr
      · cases hg : goodB v with
        | true => exact refCheck_3_tg ah ap aq t v w g2 g3 hl hr hg
        | false => exact refCheck_3_tb ah ap aq t v w g2 g3 hl hr hg
    | false =>
      rcases ck with rfl | rfl | rfl
      · exact refCheck_1_f ah ap aq t v w g2 g3 hl hr
      · exact refCheck_2_f ah ap aq t v w g2 g3 hl hr
      · cases hg : goodB v with
        | true => exact refCheck_3_fg ah ap aq t v w g2 g3 hl hr hg
        | false => exact refCheck_3_fb ah ap aq t v w g2 g3 hl hr hg
end A1
end Go.Proofs.YtnppicekfjdefaaGreatDoor
