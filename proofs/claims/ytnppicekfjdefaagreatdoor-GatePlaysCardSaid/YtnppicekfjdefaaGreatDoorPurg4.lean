/- Contracts: purge.value, purge.Check. Conditions: texts of at most 2^27 bytes. The comparison of two purges of the program's form. No condition. The comparison of two purges of the reference. No condition. -/
import Derived.Test.YtnppicekfjdefaaGreatDoorPurg2
import Derived.Test.YtnppicekfjdefaaGreatDoorPurg3
import Derived.Laws.StructEq
section
namespace Go.Proofs.YtnppicekfjdefaaGreatDoor
open Go.RowKit Pl Ad
attribute [local go_sem] ba_get ba_append ba_extract_end ba_extract_zero ba_extract
set_option maxRecDepth 100000
set_option maxHeartbeats 4000000
set_option linter.unusedVariables false
namespace A1
theorem strs_new (w : World) (s : Bs) (T : Nat) : StrsV (w.alloc (.cells #[.string ⟨s.toArray⟩] T)) (.slice (some ⟨w.heap.size, 0, none⟩) 1 1) [s] := by
  refine .inr ⟨w.heap.size, 0, 1, rfl, Nat.le_refl _, by simp, fun k x hx => ?_⟩
  have hk : k = 0 := by
    have := (List.getElem?_eq_some_iff.1 hx).1
    simp at this; exact this
  subst hk
  simp at hx
  subst hx
  rw [cell_of_row _ w.heap.size (0 + 0) _ T _ (heap_alloc_new w _)]
  rfl
theorem clean_good {s : Bs} {xs : List Bs} (h1 : ∀ x ∈ xs, goodB x = true) (h2 : goodB s = true → xs = [s]) : decide (xs = [s]) = goodB s := by
  cases hg : goodB s with
  | true => rw [h2 hg]; simp
  | false =>
    rw [decide_eq_false]
    intro e
    rw [h1 s (by rw [e]; simp)] at hg
    cases hg

theorem value_tag (t : Int) (v : Bs) (w : World) (hr : Ready w) (hl : v.length ≤ 134217728) :
    Calls Tryz.prog 52 #[.agg #[.int .i64 3, .int .i64 t, .string ⟨v.toArray⟩]] w fun e w' => e = .returned (.bool (valueB ⟨3, t, v⟩)) ∧ Below w.heap.size w w' := by
  have HV := Lib.hid (valueB_tag (p := ⟨3, t, v⟩) rfl)
  have HX := Lib.hid (box3_new w 56 (.int .i64 3) (.int .i64 t) (.string ⟨v.toArray⟩))
  have HB := Lib.hid ((Below.refl w.heap.size w).alloc (Nat.le_refl _) (.cells #[.int .i64 3, .int .i64 t, .string ⟨v.toArray⟩] 56))
  have HRD := Lib.hid (hr.below HB.out)
  go_enter Tryz.func52, Tryz.ntmps52
  go_wp2_with fail
  refine (clean_any v _ (by omega)).mono ?_
  rintro e w1 ⟨hb1, ⟨rfl, hg⟩ | ⟨u, xs, rfl, hu, hx16, hgood, hone⟩⟩
  · have HG := Lib.hid hg
    clear hg
    have hX1 := HX.out.older hb1
    obtain ⟨⟨c0, c1, c2⟩, _, hz⟩ := hX1.facts
    have HB1 := Lib.hid (HB.out.trans (hb1.mono (by simp)))
    clear hb1
    go_wp2_with fail
    go_ret
    exact ⟨ret_bool' (by rw [HV.out, HG.out]), HB1.out⟩
  · have HD := Lib.hid (clean_good hgood hone)
    clear hgood hone
    have hX1 := HX.out.older hb1
    obtain ⟨⟨c0, c1, c2⟩, _, hz⟩ := hX1.facts
    have HB1 := Lib.hid (HB.out.trans (hb1.mono (by simp)))
    clear hb1
    have HU := Lib.hid (hu.below ((Below.refl _ _).alloc (Nat.le_refl _) (.cells #[.string ⟨v.toArray⟩] 9)))
    clear hu
    go_wp2_with (go_at_call 63; refine (equal_any _ _ xs [v] _ HU.out (strs_new w1 v _) (by omega) (by simp)).mono ?_; rintro e w2 ⟨rfl, hb2⟩; rw [HD.out])
    go_ret
    exact ⟨ret_bool' (by rw [HV.out]), HB1.out.trans (((Below.refl _ _).alloc (Nat.le_refl _) _).trans (hb2.mono (by simp)) |>.mono HB1.out.size)⟩

theorem value_none (k t : Int) (v : Bs) (w : World) (hr : Ready w) (hl : v.length ≤ 134217728) (hk : ¬ k = 3) (hn : readL v = none) :
    Calls Tryz.prog 52 #[.agg #[.int .i64 k, .int .i64 t, .string ⟨v.toArray⟩]] w fun e w' => e = .returned (.bool (valueB ⟨k, t, v⟩)) ∧ Below w.heap.size w w' := by
  have HV := Lib.hid (valueB_none (p := ⟨k, t, v⟩) hk hn)
  have HN := Lib.hid hn
  have hk3 : (k == 3) = false := beq_eq_false_iff_ne.2 hk
  clear hn hk
  have HX := Lib.hid (box3_new w 56 (.int .i64 k) (.int .i64 t) (.string ⟨v.toArray⟩))
  have HB := Lib.hid ((Below.refl w.heap.size w).alloc (Nat.le_refl _) (.cells #[.int .i64 k, .int .i64 t, .string ⟨v.toArray⟩] 56))
  have HRD := Lib.hid (hr.below HB.out)
  go_enter Tryz.func52, Tryz.ntmps52
  go_wp2_with fail
  refine (read_no v _ HRD.out hl HN.out).mono ?_
  rintro e w1 ⟨rfl, hb1⟩
  have hX1 := HX.out.older hb1
  obtain ⟨⟨c0, c1, c2⟩, _, hz⟩ := hX1.facts
  have HB1 := Lib.hid (HB.out.trans (hb1.mono (by simp)))
  clear hb1
  go_wp2_with fail
  go_ret
  exact ⟨ret_bool' (by rw [HV.out]), HB1.out.alloc HB1.out.size _⟩

theorem value_some (k t : Int) (v ah ap aq : Bs) (ab : Bool) (w : World) (hr : Ready w) (hl : v.length ≤ 134217728) (hk : ¬ k = 3) (hn : readL v = some ⟨ah, ap, aq, ab⟩) :
    Calls Tryz.prog 52 #[.agg #[.int .i64 k, .int .i64 t, .string ⟨v.toArray⟩]] w fun e w' => e = .returned (.bool (valueB ⟨k, t, v⟩)) ∧ Below w.heap.size w w' := by
  have HV := Lib.hid (valueB_some (p := ⟨k, t, v⟩) hk hn)
  have HN := Lib.hid hn
  have hk3 : (k == 3) = false := beq_eq_false_iff_ne.2 hk
  clear hn hk
  have HX := Lib.hid (box3_new w 56 (.int .i64 k) (.int .i64 t) (.string ⟨v.toArray⟩))
  have HB := Lib.hid ((Below.refl w.heap.size w).alloc (Nat.le_refl _) (.cells #[.int .i64 k, .int .i64 t, .string ⟨v.toArray⟩] 56))
  have HRD := Lib.hid (hr.below HB.out)
  by_cases hk1 : k = 1
  all_goals
    first | (have hk2 : (k == 1) = true := beq_iff_eq.2 hk1) | (have hk2 : (k == 1) = false := beq_eq_false_iff_ne.2 hk1)
    have HK := Lib.hid hk1
    clear hk1
    go_enter Tryz.func52, Tryz.ntmps52
    go_wp2_with fail
    refine (read_yes v _ _ HRD.out hl HN.out).mono ?_
    rintro e w1 ⟨rfl, hb1⟩
    have hX1 := HX.out.older hb1
    obtain ⟨⟨c0, c1, c2⟩, _, hz⟩ := hX1.facts
    have HB1 := Lib.hid (HB.out.trans (hb1.mono (by simp)))
    clear hb1
    go_wp2_with fail
    go_ret
    exact ⟨ret_bool' (by rw [HV.out]; simp [HK.out]), HB1.out.alloc HB1.out.size _⟩

theorem value_any (p : Pg) (w : World) (hr : Ready w) (hl : p.value.length ≤ 134217728) :
    Calls Tryz.prog 52 #[pgV p] w fun e w' => e = .returned (.bool (valueB p)) ∧ Below w.heap.size w w' := by
  obtain ⟨k, t, v⟩ := p
  by_cases hk : k = 3
  · subst hk
    exact value_tag t v w hr hl
  · cases hn : readL v with
    | none => exact value_none k t v w hr hl hk hn
    | some a =>
      obtain ⟨ah, ap, aq, ab⟩ := a
      exact value_some k t v ah ap aq ab w hr hl hk hn

/-- The error of a purge. -/
def chkV (p : Pg) : Value := if checkN p = 0 then .nilIface else .iface 60 (.int .i64 (checkN p))
theorem chkV_ok {p : Pg} (h : checkN p = 0) : chkV p = .nilIface := if_pos h
theorem chkV_err {p : Pg} {n : Int} (h : checkN p = n) (hn : ¬ n = 0) : chkV p = .iface 60 (.int .i64 n) := by
  unfold chkV; rw [h, if_neg hn]
theorem ret_eq {a b : Value} (h : a = b) : Ending.returned a = Ending.returned b := by rw [h]

theorem check_k1 (k t : Int) (v : Bs) (w : World) (h : k < 1) :
    Calls Tryz.prog 35 #[.agg #[.int .i64 k, .int .i64 t, .string ⟨v.toArray⟩]] w fun e w' => e = .returned (chkV ⟨k, t, v⟩) ∧ Below w.heap.size w w' := by
  have HC := Lib.hid (chkV_err (show checkN ⟨k, t, v⟩ = 2 from checkN_kind (.inl h)) (by decide))
  go_enter Tryz.func35, Tryz.ntmps35
  go_wp2_with fail
  go_ret
  exact ⟨ret_eq HC.out.symm, (Below.refl _ _).alloc (Nat.le_refl _) _⟩

theorem check_k2 (k t : Int) (v : Bs) (w : World) (h0 : 1 ≤ k) (h : 3 < k) :
    Calls Tryz.prog 35 #[.agg #[.int .i64 k, .int .i64 t, .string ⟨v.toArray⟩]] w fun e w' => e = .returned (chkV ⟨k, t, v⟩) ∧ Below w.heap.size w w' := by
  have HC := Lib.hid (chkV_err (show checkN ⟨k, t, v⟩ = 2 from checkN_kind (.inr h)) (by decide))
  go_enter Tryz.func35, Tryz.ntmps35
  go_wp2_with fail
  go_ret
  exact ⟨ret_eq HC.out.symm, (Below.refl _ _).alloc (Nat.le_refl _) _⟩

theorem check_t1 (k t : Int) (v : Bs) (w : World) (h0 : 1 ≤ k) (h1 : k ≤ 3) (h : t < 0) :
    Calls Tryz.prog 35 #[.agg #[.int .i64 k, .int .i64 t, .string ⟨v.toArray⟩]] w fun e w' => e = .returned (chkV ⟨k, t, v⟩) ∧ Below w.heap.size w w' := by
  have HC := Lib.hid (chkV_err (show checkN ⟨k, t, v⟩ = 1 from checkN_tenant (by show ¬ (k < 1 ∨ 3 < k); omega) (.inl h)) (by decide))
  go_enter Tryz.func35, Tryz.ntmps35
  go_wp2_with fail
  go_ret
  exact ⟨ret_eq HC.out.symm, (Below.refl _ _).alloc (Nat.le_refl _) _⟩

theorem check_t2 (k t : Int) (v : Bs) (w : World) (h0 : 1 ≤ k) (h1 : k ≤ 3) (h2 : 0 ≤ t) (h : 16 ≤ t) :
    Calls Tryz.prog 35 #[.agg #[.int .i64 k, .int .i64 t, .string ⟨v.toArray⟩]] w fun e w' => e = .returned (chkV ⟨k, t, v⟩) ∧ Below w.heap.size w w' := by
  have HC := Lib.hid (chkV_err (show checkN ⟨k, t, v⟩ = 1 from checkN_tenant (by show ¬ (k < 1 ∨ 3 < k); omega) (.inr h)) (by decide))
  go_enter Tryz.func35, Tryz.ntmps35
  go_wp2_with fail
  go_ret
  exact ⟨ret_eq HC.out.symm, (Below.refl _ _).alloc (Nat.le_refl _) _⟩

theorem check_val (k t : Int) (v : Bs) (w : World) (hr : Ready w) (hl : v.length ≤ 134217728) (h0 : 1 ≤ k) (h1 : k ≤ 3) (h2 : 0 ≤ t) (h3 : t < 16) :
    Calls Tryz.prog 35 #[.agg #[.int .i64 k, .int .i64 t, .string ⟨v.toArray⟩]] w fun e w' => e = .returned (chkV ⟨k, t, v⟩) ∧ Below w.heap.size w w' := by
  have hc : checkN ⟨k, t, v⟩ = if valueB ⟨k, t, v⟩ then 0 else 2 := checkN_value (by show ¬ (k < 1 ∨ 3 < k); omega) (by show ¬ (t < 0 ∨ 16 ≤ t); omega)
  have HX := Lib.hid (box3_new w 56 (.int .i64 k) (.int .i64 t) (.string ⟨v.toArray⟩))
  have HB := Lib.hid ((Below.refl w.heap.size w).alloc (Nat.le_refl _) (.cells #[.int .i64 k, .int .i64 t, .string ⟨v.toArray⟩] 56))
  have HRD := Lib.hid (hr.below HB.out)
  cases hv : valueB ⟨k, t, v⟩ with
  | true =>
    have HV := Lib.hid hv
    have HC := Lib.hid (chkV_ok (p := ⟨k, t, v⟩) (by rw [hc, hv]; rfl))
    clear hc hv
    go_enter Tryz.func35, Tryz.ntmps35
    go_wp2_with (go_at_call 52; refine (value_any ⟨k, t, v⟩ _ HRD.out hl).mono ?_; rintro e w1 ⟨rfl, hb1⟩; rw [HV.out])
    go_ret
    exact ⟨ret_eq HC.out.symm, HB.out.trans (hb1.mono (by simp))⟩
  | false =>
    have HV := Lib.hid hv
    have HC := Lib.hid (chkV_err (p := ⟨k, t, v⟩) (n := 2) (by rw [hc, hv]; rfl) (by decide))
    clear hc hv
    go_enter Tryz.func35, Tryz.ntmps35
    go_wp2_with (go_at_call 52; refine (value_any ⟨k, t, v⟩ _ HRD.out hl).mono ?_; rintro e w1 ⟨rfl, hb1⟩; rw [HV.out])
    go_ret
    exact ⟨ret_eq HC.out.symm, HB.out.trans (hb1.mono (by simp))⟩

theorem check_any (p : Pg) (w : World) (hr : Ready w) (hl : p.value.length ≤ 134217728) :
    Calls Tryz.prog 35 #[pgV p] w fun e w' => e = .returned (chkV p) ∧ Below w.heap.size w w' := by
  obtain ⟨k, t, v⟩ := p
  simp only at hl
  by_cases h0 : k < 1
  · exact check_k1 k t v w h0
  by_cases h1 : 3 < k
  · exact check_k2 k t v w (by omega) h1
  by_cases h2 : t < 0
  · exact check_t1 k t v w (by omega) (by omega) h2
  by_cases h3 : 16 ≤ t
  · exact check_t2 k t v w (by omega) (by omega) (by omega) h3
  exact check_val k t v w hr hl (by omega) (by omega) (by omega) (by omega)
end A1
end Go.Proofs.YtnppicekfjdefaaGreatDoor
end

section
namespace Go.Proofs.YtnppicekfjdefaaGreatDoor
open Go.RowKit Pl Ad
set_option maxRecDepth 100000
set_option linter.unusedVariables false
namespace A1
theorem und_pg : Tryz.prog.underlying 56 = some (.struct (Tryz.prog.fieldsOf 56)) := by rfl
theorem held_pg : Tryz.prog.stoodInHeld 56 = false := by decide +kernel
theorem guardB_pg : Tryz.prog.eqGuardType Tryz.prog.depth 56 = false := by decide +kernel
theorem guard_pg (op : BinOp) (x y : Operand) (xs ys : Array Value) (w : World) : (eqGuard op 56 x y (.agg xs) (.agg ys)).run Tryz.prog w = .ok () w := run_eqGuard_agg w op 56 x y xs ys guardB_pg
theorem eql_pg (k t k' t' : Int) (v v' : Bs) (w : World) : (binOp .eql 56 (.agg #[.int .i64 k, .int .i64 t, .string ⟨v.toArray⟩]) (.agg #[.int .i64 k', .int .i64 t', .string ⟨v'.toArray⟩])).run Tryz.prog w = .ok (.bool (k == k' && (t == t' && v == v'))) w := by
  rw [run_eql_struct, run_equalIn_agg w 9999 _ _ _ und_pg held_pg]
  simp [go_sem]
  by_cases h1 : k = k' <;> by_cases h2 : t = t' <;> by_cases h3 : v = v' <;> simp [h1, h2, h3]
end A1
end Go.Proofs.YtnppicekfjdefaaGreatDoor
end

section
namespace Go.Proofs.YtnppicekfjdefaaGreatDoor
open Go.RowKit Pl Ad
set_option maxRecDepth 100000
set_option linter.unusedVariables false
namespace A1
theorem und_rpg : Tryz.prog.underlying 82 = some (.struct (Tryz.prog.fieldsOf 82)) := by rfl
theorem held_rpg : Tryz.prog.stoodInHeld 82 = false := by decide +kernel
theorem guardB_rpg : Tryz.prog.eqGuardType Tryz.prog.depth 82 = false := by decide +kernel
theorem guard_rpg (op : BinOp) (x y : Operand) (xs ys : Array Value) (w : World) : (eqGuard op 82 x y (.agg xs) (.agg ys)).run Tryz.prog w = .ok () w := run_eqGuard_agg w op 82 x y xs ys guardB_rpg
theorem eql_rpg (k t k' t' : Int) (v v' : Bs) (w : World) : (binOp .eql 82 (.agg #[.int .i64 k, .int .i64 t, .string ⟨v.toArray⟩]) (.agg #[.int .i64 k', .int .i64 t', .string ⟨v'.toArray⟩])).run Tryz.prog w = .ok (.bool (k == k' && (t == t' && v == v'))) w := by
  rw [run_eql_struct, run_equalIn_agg w 9999 _ _ _ und_rpg held_rpg]
  simp [go_sem]
  by_cases h1 : k = k' <;> by_cases h2 : t = t' <;> by_cases h3 : v = v' <;> simp [h1, h2, h3]
end A1
end Go.Proofs.YtnppicekfjdefaaGreatDoor
end
