/- Contracts and plain facts that the statement's proof leans on (texts joined). No condition beyond those that each names. -/
import Derived.Laws.StructEq
import Derived.BigQuiet
import Derived.Lib.ItoaNum
import Derived.Deep.RegionHeld3
import Derived.LaidLaws
import Derived.MakeChecks
import Derived.OpenShut
import Derived.Test.YtjijijjkkhpjnaaGreatDoorQgA
import Derived.Test.YtjijijjkkhpjnaaGreatDoorQgC
import Derived.Test.YtjijijjkkhpjnaaGreatDoorQgD
import Derived.Test.YtjijijjkkhpjnaaGreatDoorQgE
section
section
namespace Go.Proofs.YtjijijjkkhpjnaaGreatDoor
open Go.RowKit Pl Ad
attribute [local go_sem] ba_get ba_append ba_extract_end ba_extract_zero ba_extract
set_option maxRecDepth 100000
set_option maxHeartbeats 4000000
set_option linter.unusedVariables false
namespace A1
theorem strs_new (w : World) (s : Bs) (T : Nat) : StrsV (w.alloc (.cells #[.string ⟨s.toArray⟩] T)) (.slice (some ⟨w.heap.size, 0, none⟩) 1 1) [s] := by
  refine .inr ⟨w.heap.size, 0, 1, rfl, Nat.le_refl _, by simp, fun k x hx => ?_⟩
  have hk : k = 0 := by
    have := (List.getElem?_eq_some_iff.1 hx).1
    simp at this; exact this
  subst hk
  simp at hx
  subst hx
  rw [cell_of_row _ w.heap.size (0 + 0) _ T _ (heap_alloc_new w _)]
  rfl
theorem clean_good {s : Bs} {xs : List Bs} (h1 : ∀ x ∈ xs, goodB x = true) (h2 : goodB s = true → xs = [s]) : decide (xs = [s]) = goodB s := by
  cases hg : goodB s with
  | true => rw [h2 hg]; simp
  | false =>
    rw [decide_eq_false]
    intro e
    rw [h1 s (by rw [e]; simp)] at hg
    cases hg

theorem value_tag (t : Int) (v : Bs) (w : World) (hr : Ready w) (hl : v.length ≤ 134217728) :
    Calls Tryz.prog 67 #[.agg #[.int .i64 3, .int .i64 t, .string ⟨v.toArray⟩]] w fun e w' => e = .returned (.bool (valueB ⟨3, t, v⟩)) ∧ Below w.heap.size w w' := by
  have HV := Lib.hid (valueB_tag (p := ⟨3, t, v⟩) rfl)
  have HX := Lib.hid (box3_new w 40 (.int .i64 3) (.int .i64 t) (.string ⟨v.toArray⟩))
  have HB := Lib.hid ((Below.refl w.heap.size w).alloc (Nat.le_refl _) (.cells #[.int .i64 3, .int .i64 t, .string ⟨v.toArray⟩] 40))
  have HRD := Lib.hid (hr.below HB.out)
  go_enter Tryz.func67, Tryz.ntmps67
  go_wp2_with fail
  refine (clean_any v _ (by omega)).mono ?_
  rintro e w1 ⟨hb1, ⟨rfl, hg⟩ | ⟨u, xs, rfl, hu, hx16, hgood, hone⟩⟩
  · have HG := Lib.hid hg
    clear hg
    have hX1 := HX.out.older hb1
    obtain ⟨⟨c0, c1, c2⟩, _, hz⟩ := hX1.facts
    have HB1 := Lib.hid (HB.out.trans (hb1.mono (by simp)))
    clear hb1
    go_wp2_with fail
    go_ret
    exact ⟨ret_bool' (by rw [HV.out, HG.out]), HB1.out⟩
  · have HD := Lib.hid (clean_good hgood hone)
    clear hgood hone
    have hX1 := HX.out.older hb1
    obtain ⟨⟨c0, c1, c2⟩, _, hz⟩ := hX1.facts
    have HB1 := Lib.hid (HB.out.trans (hb1.mono (by simp)))
    clear hb1
    have HU := Lib.hid (hu.below ((Below.refl _ _).alloc (Nat.le_refl _) (.cells #[.string ⟨v.toArray⟩] 9)))
    clear hu
    go_wp2_with (go_at_call 88; refine (equal_any _ _ xs [v] _ HU.out (strs_new w1 v _) (by omega) (by simp)).mono ?_; rintro e w2 ⟨rfl, hb2⟩; rw [HD.out])
    go_ret
    exact ⟨ret_bool' (by rw [HV.out]), HB1.out.trans (((Below.refl _ _).alloc (Nat.le_refl _) _).trans (hb2.mono (by simp)) |>.mono HB1.out.size)⟩

theorem value_none (k t : Int) (v : Bs) (w : World) (hr : Ready w) (hl : v.length ≤ 134217728) (hk : ¬ k = 3) (hn : readL v = none) :
    Calls Tryz.prog 67 #[.agg #[.int .i64 k, .int .i64 t, .string ⟨v.toArray⟩]] w fun e w' => e = .returned (.bool (valueB ⟨k, t, v⟩)) ∧ Below w.heap.size w w' := by
  have HV := Lib.hid (valueB_none (p := ⟨k, t, v⟩) hk hn)
  have HN := Lib.hid hn
  have hk3 : (k == 3) = false := beq_eq_false_iff_ne.2 hk
  clear hn hk
  have HX := Lib.hid (box3_new w 40 (.int .i64 k) (.int .i64 t) (.string ⟨v.toArray⟩))
  have HB := Lib.hid ((Below.refl w.heap.size w).alloc (Nat.le_refl _) (.cells #[.int .i64 k, .int .i64 t, .string ⟨v.toArray⟩] 40))
  have HRD := Lib.hid (hr.below HB.out)
  go_enter Tryz.func67, Tryz.ntmps67
  go_wp2_with fail
  refine (read_no v _ HRD.out hl HN.out).mono ?_
  rintro e w1 ⟨rfl, hb1⟩
  have hX1 := HX.out.older hb1
  obtain ⟨⟨c0, c1, c2⟩, _, hz⟩ := hX1.facts
  have HB1 := Lib.hid (HB.out.trans (hb1.mono (by simp)))
  clear hb1
  go_wp2_with fail
  go_ret
  exact ⟨ret_bool' (by rw [HV.out]), HB1.out.alloc HB1.out.size _⟩

theorem value_some (k t : Int) (v ah ap aq : Bs) (ab : Bool) (w : World) (hr : Ready w) (hl : v.length ≤ 134217728) (hk : ¬ k = 3) (hn : readL v = some ⟨ah, ap, aq, ab⟩) :
    Calls Tryz.prog 67 #[.agg #[.int .i64 k, .int .i64 t, .string ⟨v.toArray⟩]] w fun e w' => e = .returned (.bool (valueB ⟨k, t, v⟩)) ∧ Below w.heap.size w w' := by
  have HV := Lib.hid (valueB_some (p := ⟨k, t, v⟩) hk hn)
  have HN := Lib.hid hn
  have hk3 : (k == 3) = false := beq_eq_false_iff_ne.2 hk
  clear hn hk
  have HX := Lib.hid (box3_new w 40 (.int .i64 k) (.int .i64 t) (.string ⟨v.toArray⟩))
  have HB := Lib.hid ((Below.refl w.heap.size w).alloc (Nat.le_refl _) (.cells #[.int .i64 k, .int .i64 t, .string ⟨v.toArray⟩] 40))
  have HRD := Lib.hid (hr.below HB.out)
  by_cases hk1 : k = 1
  all_goals
    first | (have hk2 : (k == 1) = true := beq_iff_eq.2 hk1) | (have hk2 : (k == 1) = false := beq_eq_false_iff_ne.2 hk1)
    have HK := Lib.hid hk1
    clear hk1
    go_enter Tryz.func67, Tryz.ntmps67
    go_wp2_with fail
    refine (read_yes v _ _ HRD.out hl HN.out).mono ?_
    rintro e w1 ⟨rfl, hb1⟩
    have hX1 := HX.out.older hb1
    obtain ⟨⟨c0, c1, c2⟩, _, hz⟩ := hX1.facts
    have HB1 := Lib.hid (HB.out.trans (hb1.mono (by simp)))
    clear hb1
    go_wp2_with fail
    go_ret
    exact ⟨ret_bool' (by rw [HV.out]; simp [HK.out]), HB1.out.alloc HB1.out.size _⟩

theorem value_any (p : Pg) (w : World) (hr : Ready w) (hl : p.value.length ≤ 134217728) :
    Calls Tryz.prog 67 #[pgV p] w fun e w' => e = .returned (.bool (valueB p)) ∧ Below w.heap.size w w' := by
  obtain ⟨k, t, v⟩ := p
  by_cases hk : k = 3
  · subst hk
    exact value_tag t v w hr hl
  · cases hn : readL v with
    | none => exact value_none k t v w hr hl hk hn
    | some a =>
      obtain ⟨ah, ap, aq, ab⟩ := a
      exact value_some k t v ah ap aq ab w hr hl hk hn

/-- The error of a purge. -/
def chkV (p : Pg) : Value := if checkN p = 0 then .nilIface else .iface 108 (.int .i64 (checkN p))
theorem chkV_ok {p : Pg} (h : checkN p = 0) : chkV p = .nilIface := if_pos h
theorem chkV_err {p : Pg} {n : Int} (h : checkN p = n) (hn : ¬ n = 0) : chkV p = .iface 108 (.int .i64 n) := by
  unfold chkV; rw [h, if_neg hn]
theorem ret_eq {a b : Value} (h : a = b) : Ending.returned a = Ending.returned b := by rw [h]

theorem check_k1 (k t : Int) (v : Bs) (w : World) (h : k < 1) :
    Calls Tryz.prog 39 #[.agg #[.int .i64 k, .int .i64 t, .string ⟨v.toArray⟩]] w fun e w' => e = .returned (chkV ⟨k, t, v⟩) ∧ Below w.heap.size w w' := by
  have HC := Lib.hid (chkV_err (show checkN ⟨k, t, v⟩ = 2 from checkN_kind (.inl h)) (by decide))
  go_enter Tryz.func39, Tryz.ntmps39
  go_wp2_with fail
  go_ret
  exact ⟨ret_eq HC.out.symm, (Below.refl _ _).alloc (Nat.le_refl _) _⟩

theorem check_k2 (k t : Int) (v : Bs) (w : World) (h0 : 1 ≤ k) (h : 3 < k) :
    Calls Tryz.prog 39 #[.agg #[.int .i64 k, .int .i64 t, .string ⟨v.toArray⟩]] w fun e w' => e = .returned (chkV ⟨k, t, v⟩) ∧ Below w.heap.size w w' := by
  have HC := Lib.hid (chkV_err (show checkN ⟨k, t, v⟩ = 2 from checkN_kind (.inr h)) (by decide))
  go_enter Tryz.func39, Tryz.ntmps39
  go_wp2_with fail
  go_ret
  exact ⟨ret_eq HC.out.symm, (Below.refl _ _).alloc (Nat.le_refl _) _⟩

theorem check_t1 (k t : Int) (v : Bs) (w : World) (h0 : 1 ≤ k) (h1 : k ≤ 3) (h : t < 0) :
    Calls Tryz.prog 39 #[.agg #[.int .i64 k, .int .i64 t, .string ⟨v.toArray⟩]] w fun e w' => e = .returned (chkV ⟨k, t, v⟩) ∧ Below w.heap.size w w' := by
  have HC := Lib.hid (chkV_err (show checkN ⟨k, t, v⟩ = 1 from checkN_tenant (by show ¬ (k < 1 ∨ 3 < k); omega) (.inl h)) (by decide))
  go_enter Tryz.func39, Tryz.ntmps39
  go_wp2_with fail
  go_ret
  exact ⟨ret_eq HC.out.symm, (Below.refl _ _).alloc (Nat.le_refl _) _⟩

theorem check_t2 (k t : Int) (v : Bs) (w : World) (h0 : 1 ≤ k) (h1 : k ≤ 3) (h2 : 0 ≤ t) (h : 16 ≤ t) :
    Calls Tryz.prog 39 #[.agg #[.int .i64 k, .int .i64 t, .string ⟨v.toArray⟩]] w fun e w' => e = .returned (chkV ⟨k, t, v⟩) ∧ Below w.heap.size w w' := by
  have HC := Lib.hid (chkV_err (show checkN ⟨k, t, v⟩ = 1 from checkN_tenant (by show ¬ (k < 1 ∨ 3 < k); omega) (.inr h)) (by decide))
  go_enter Tryz.func39, Tryz.ntmps39
  go_wp2_with fail
  go_ret
  exact ⟨ret_eq HC.out.symm, (Below.refl _ _).alloc (Nat.le_refl _) _⟩

theorem check_val (k t : Int) (v : Bs) (w : World) (hr : Ready w) (hl : v.length ≤ 134217728) (h0 : 1 ≤ k) (h1 : k ≤ 3) (h2 : 0 ≤ t) (h3 : t < 16) :
    Calls Tryz.prog 39 #[.agg #[.int .i64 k, .int .i64 t, .string ⟨v.toArray⟩]] w fun e w' => e = .returned (chkV ⟨k, t, v⟩) ∧ Below w.heap.size w w' := by
  have hc : checkN ⟨k, t, v⟩ = if valueB ⟨k, t, v⟩ then 0 else 2 := checkN_value (by show ¬ (k < 1 ∨ 3 < k); omega) (by show ¬ (t < 0 ∨ 16 ≤ t); omega)
  have HX := Lib.hid (box3_new w 40 (.int .i64 k) (.int .i64 t) (.string ⟨v.toArray⟩))
  have HB := Lib.hid ((Below.refl w.heap.size w).alloc (Nat.le_refl _) (.cells #[.int .i64 k, .int .i64 t, .string ⟨v.toArray⟩] 40))
  have HRD := Lib.hid (hr.below HB.out)
  cases hv : valueB ⟨k, t, v⟩ with
  | true =>
    have HV := Lib.hid hv
    have HC := Lib.hid (chkV_ok (p := ⟨k, t, v⟩) (by rw [hc, hv]; rfl))
    clear hc hv
    go_enter Tryz.func39, Tryz.ntmps39
    go_wp2_with (go_at_call 67; refine (value_any ⟨k, t, v⟩ _ HRD.out hl).mono ?_; rintro e w1 ⟨rfl, hb1⟩; rw [HV.out])
    go_ret
    exact ⟨ret_eq HC.out.symm, HB.out.trans (hb1.mono (by simp))⟩
  | false =>
    have HV := Lib.hid hv
    have HC := Lib.hid (chkV_err (p := ⟨k, t, v⟩) (n := 2) (by rw [hc, hv]; rfl) (by decide))
    clear hc hv
    go_enter Tryz.func39, Tryz.ntmps39
    go_wp2_with (go_at_call 67; refine (value_any ⟨k, t, v⟩ _ HRD.out hl).mono ?_; rintro e w1 ⟨rfl, hb1⟩; rw [HV.out])
    go_ret
    exact ⟨ret_eq HC.out.symm, HB.out.trans (hb1.mono (by simp))⟩

theorem check_any (p : Pg) (w : World) (hr : Ready w) (hl : p.value.length ≤ 134217728) :
    Calls Tryz.prog 39 #[pgV p] w fun e w' => e = .returned (chkV p) ∧ Below w.heap.size w w' := by
  obtain ⟨k, t, v⟩ := p
  simp only at hl
  by_cases h0 : k < 1
  · exact check_k1 k t v w h0
  by_cases h1 : 3 < k
  · exact check_k2 k t v w (by omega) h1
  by_cases h2 : t < 0
  · exact check_t1 k t v w (by omega) (by omega) h2
  by_cases h3 : 16 ≤ t
  · exact check_t2 k t v w (by omega) (by omega) (by omega) h3
  exact check_val k t v w hr hl (by omega) (by omega) (by omega) (by omega)
end A1
end Go.Proofs.YtjijijjkkhpjnaaGreatDoor
end

section
namespace Go.Proofs.YtjijijjkkhpjnaaGreatDoor
open Go.RowKit Pl Ad
set_option maxRecDepth 100000
set_option linter.unusedVariables false
namespace A1
end A1
end Go.Proofs.YtjijijjkkhpjnaaGreatDoor
end

section
namespace Go.Proofs.YtjijijjkkhpjnaaGreatDoor
open Go.RowKit Pl Ad
set_option maxRecDepth 100000
set_option linter.unusedVariables false
namespace A1
end A1
end Go.Proofs.YtjijijjkkhpjnaaGreatDoor
end
end

section
namespace Go.Proofs.YtjijijjkkhpjnaaGreatDoor
open Go.RowKit Pl Ad
attribute [local go_sem] ba_get conv_one conv_one_drewN ba_append ba_extract
set_option maxRecDepth 100000
set_option maxHeartbeats 4000000
set_option linter.unusedVariables false
namespace A1

/-- Does a path lie under another? -/
def underB (p q : Bs) : Bool := q.isPrefixOf p && (decide (p.length = q.length) || decide (q.getLast? = some 47) || decide ((p.drop q.length).head? = some 47))
def under (a b : Adr) : Bool := decide (a.host = b.host) && underB a.path b.path

theorem suffix_one (q : Bs) (c : UInt8) : Lib.hasSuffix q [c] = decide (q.getLast? = some c) := by
  unfold Lib.hasSuffix
  rw [Bool.eq_iff_iff, decide_eq_true_eq, List.isSuffixOf_iff_suffix]
  constructor
  · rintro ⟨t, rfl⟩; simp
  · intro h
    obtain ⟨ys, rfl⟩ := List.getLast?_eq_some_iff.1 h
    exact ⟨ys, rfl⟩
theorem underB_self (q : Bs) : underB q q = true := by
  have : q.isPrefixOf q = true := by rw [List.isPrefixOf_iff_prefix]; exact List.prefix_refl q
  simp [underB, this]
theorem underB_more (q t : Bs) (x : UInt8) : underB (q ++ x :: t) q = (Lib.hasSuffix q [47] || decide (x = 47)) := by
  have h1 : q.isPrefixOf (q ++ x :: t) = true := by rw [List.isPrefixOf_iff_prefix]; exact List.prefix_append q _
  unfold underB
  rw [h1, suffix_one]
  simp
theorem underB_no (p q : Bs) (h : q.isPrefixOf p = false) : underB p q = false := by simp [underB, h]

theorem under_any (h p q h2 p2 q2 : Bs) (b b2 : Bool) (w : World) (hp : p.length ≤ 9223372036854775807) (hp2 : p2.length ≤ 9223372036854775807) :
    Calls Tryz.prog 103 #[.agg #[.string ⟨h.toArray⟩, .string ⟨p.toArray⟩, .string ⟨q.toArray⟩, .bool b], .agg #[.string ⟨h2.toArray⟩, .string ⟨p2.toArray⟩, .string ⟨q2.toArray⟩, .bool b2]] w fun e w' => e = .returned (.bool (decide (h = h2) && underB p p2)) ∧ Below w.heap.size w w' := by
  by_cases hh : h = h2
  · subst hh
    by_cases hpre : p2.isPrefixOf p = true
    · obtain ⟨t, rfl⟩ := List.isPrefixOf_iff_prefix.1 hpre
      have HPP := Lib.hid (show Lib.hasPrefix (p2 ++ t) p2 = true from hpre)
      clear hpre
      match t, HPP, hp with
      | [], HPP, hp =>
        have HU := Lib.hid (underB_self p2)
        rw [List.append_nil] at HPP hp ⊢
        go_enter Tryz.func103, Tryz.ntmps103
        go_wp2_with (first | (go_at_call 123; refine (hasPrefix_any _ _ _).mono ?_; rintro e w1 ⟨rfl, rfl⟩; rw [HPP.out]) | (go_at_call 124; refine (hasSuffix_any _ _ _ (by omega)).mono ?_; rintro e w1 ⟨rfl, rfl⟩))
        all_goals
          go_ret
          exact ⟨ret_bool (by rw [HU.out]; simp), ((Below.refl _ _).alloc (Nat.le_refl _) _).alloc (by simp) _⟩
      | x :: t, HPP, hp =>
        have HU := Lib.hid (underB_more p2 t x)
        have hl : p2.length + t.length + 1 ≤ 9223372036854775807 := by simp at hp; omega
        go_enter Tryz.func103, Tryz.ntmps103
        go_wp2_with (first | (go_at_call 123; refine (hasPrefix_any _ _ _).mono ?_; rintro e w1 ⟨rfl, rfl⟩; rw [HPP.out]) | (go_at_call 124; refine (hasSuffix_any _ _ _ (by omega)).mono ?_; rintro e w1 ⟨rfl, rfl⟩))
        all_goals
          go_ret
          exact ⟨ret_bool (by rw [HU.out, Bool.eq_iff_iff]; simp [*, ← UInt8.toNat_inj] <;> omega), ((Below.refl _ _).alloc (Nat.le_refl _) _).alloc (by simp) _⟩
    · have HU := Lib.hid (underB_no p p2 (Bool.eq_false_iff.2 hpre))
      have HPP := Lib.hid (show Lib.hasPrefix p p2 = false from Bool.eq_false_iff.2 hpre)
      clear hpre
      go_enter Tryz.func103, Tryz.ntmps103
      go_wp2_with ((go_at_call 123; refine (hasPrefix_any _ _ _).mono ?_; rintro e w1 ⟨rfl, rfl⟩; rw [HPP.out]))
      go_ret
      exact ⟨ret_bool (by rw [HU.out]; simp), ((Below.refl _ _).alloc (Nat.le_refl _) _).alloc (by simp) _⟩
  · have hb : (h == h2) = false := by simpa using hh
    have HD := Lib.hid (show decide (h = h2) = false from decide_eq_false hh)
    clear hh
    go_enter Tryz.func103, Tryz.ntmps103
    go_wp2_with (first | (go_at_call 124; refine (hasSuffix_any _ _ _ (by omega)).mono ?_; rintro e w1 ⟨rfl, rfl⟩))
    go_ret
    exact ⟨ret_bool (by rw [HD.out]; simp), ((Below.refl _ _).alloc (Nat.le_refl _) _).alloc (by simp) _⟩

end A1
end Go.Proofs.YtjijijjkkhpjnaaGreatDoor
end

section
namespace Go.Proofs.YtjijijjkkhpjnaaGreatDoor
open Go.RowKit Pl Ad
attribute [local go_sem] ba_get ba_append ba_extract_end ba_extract_zero ba_extract
set_option maxRecDepth 100000
set_option maxHeartbeats 4000000
set_option linter.unusedVariables false
namespace A1

theorem und_nn (x p : Bs) (w : World) (hr : Ready w) (hlx : x.length ≤ 134217728) (hlp : p.length ≤ 134217728) (hx : readL x = none) (hp : readL p = none) :
    Calls Tryz.prog 73 #[.string ⟨x.toArray⟩, .string ⟨p.toArray⟩] w fun e w' => e = .returned (.bool (undT x p)) ∧ Below w.heap.size w w' := by
  have HU := Lib.hid (show undT x p = false from undT_none1 hx)
  have HX := Lib.hid hx
  have HP := Lib.hid hp
  clear hx hp
  go_enter Tryz.func73, Tryz.ntmps73
  go_wp2_with fail
  refine (read_no x _ hr hlx HX.out).mono ?_
  rintro e w1 ⟨rfl, hb1⟩
  have hBA := Lib.hid (box_new w1 145 (.string ⟨#[]⟩) (.string ⟨#[]⟩) (.string ⟨#[]⟩) (.bool false))
  have hB2 := Lib.hid (hb1.alloc hb1.size (.cells #[.string ⟨#[]⟩, .string ⟨#[]⟩, .string ⟨#[]⟩, .bool false] 145))
  have hr2 := Lib.hid (hr.below hB2.out)
  clear hb1
  go_wp2_with fail
  refine (read_no p _ hr2.out hlp HP.out).mono ?_
  rintro e w2 ⟨rfl, hb2⟩
  have hA2 := hBA.out.below hb2 (by simp)
  have HB3 := Lib.hid (hB2.out.trans (hb2.mono hB2.out.size))
  obtain ⟨⟨c0, c1, c2, c3⟩, _, hz⟩ := hA2.facts
  clear hb2
  go_wp2_with fail
  go_ret
  exact ⟨ret_bool' (by rw [HU.out]), HB3.out.alloc HB3.out.size _⟩

theorem und_ns (ph pp pq : Bs) (pb : Bool) (x p : Bs) (w : World) (hr : Ready w) (hlx : x.length ≤ 134217728) (hlp : p.length ≤ 134217728) (hx : readL x = none) (hp : readL p = some ⟨ph, pp, pq, pb⟩) :
    Calls Tryz.prog 73 #[.string ⟨x.toArray⟩, .string ⟨p.toArray⟩] w fun e w' => e = .returned (.bool (undT x p)) ∧ Below w.heap.size w w' := by
  have HU := Lib.hid (show undT x p = false from undT_none1 hx)
  have HX := Lib.hid hx
  have HP := Lib.hid hp
  clear hx hp
  go_enter Tryz.func73, Tryz.ntmps73
  go_wp2_with fail
  refine (read_no x _ hr hlx HX.out).mono ?_
  rintro e w1 ⟨rfl, hb1⟩
  have hBA := Lib.hid (box_new w1 145 (.string ⟨#[]⟩) (.string ⟨#[]⟩) (.string ⟨#[]⟩) (.bool false))
  have hB2 := Lib.hid (hb1.alloc hb1.size (.cells #[.string ⟨#[]⟩, .string ⟨#[]⟩, .string ⟨#[]⟩, .bool false] 145))
  have hr2 := Lib.hid (hr.below hB2.out)
  clear hb1
  go_wp2_with fail
  refine (read_yes p _ _ hr2.out hlp HP.out).mono ?_
  rintro e w2 ⟨rfl, hb2⟩
  have hA2 := hBA.out.below hb2 (by simp)
  have HB3 := Lib.hid (hB2.out.trans (hb2.mono hB2.out.size))
  obtain ⟨⟨c0, c1, c2, c3⟩, _, hz⟩ := hA2.facts
  clear hb2
  go_wp2_with fail
  go_ret
  exact ⟨ret_bool' (by rw [HU.out]), HB3.out.alloc HB3.out.size _⟩

theorem und_sn (xh xp xq : Bs) (xb : Bool) (x p : Bs) (w : World) (hr : Ready w) (hlx : x.length ≤ 134217728) (hlp : p.length ≤ 134217728) (hx : readL x = some ⟨xh, xp, xq, xb⟩) (hp : readL p = none) :
    Calls Tryz.prog 73 #[.string ⟨x.toArray⟩, .string ⟨p.toArray⟩] w fun e w' => e = .returned (.bool (undT x p)) ∧ Below w.heap.size w w' := by
  have HU := Lib.hid (show undT x p = false from undT_none2 hx hp)
  have HX := Lib.hid hx
  have HP := Lib.hid hp
  clear hx hp
  go_enter Tryz.func73, Tryz.ntmps73
  go_wp2_with fail
  refine (read_yes x _ _ hr hlx HX.out).mono ?_
  rintro e w1 ⟨rfl, hb1⟩
  have hBA := Lib.hid (box_new w1 145 (.string ⟨xh.toArray⟩) (.string ⟨xp.toArray⟩) (.string ⟨xq.toArray⟩) (.bool xb))
  have hB2 := Lib.hid (hb1.alloc hb1.size (.cells #[.string ⟨xh.toArray⟩, .string ⟨xp.toArray⟩, .string ⟨xq.toArray⟩, .bool xb] 145))
  have hr2 := Lib.hid (hr.below hB2.out)
  clear hb1
  go_wp2_with fail
  refine (read_no p _ hr2.out hlp HP.out).mono ?_
  rintro e w2 ⟨rfl, hb2⟩
  have hA2 := hBA.out.below hb2 (by simp)
  have HB3 := Lib.hid (hB2.out.trans (hb2.mono hB2.out.size))
  obtain ⟨⟨c0, c1, c2, c3⟩, _, hz⟩ := hA2.facts
  clear hb2
  go_wp2_with fail
  go_ret
  exact ⟨ret_bool' (by rw [HU.out]), HB3.out.alloc HB3.out.size _⟩

theorem und_ss (xh xp xq : Bs) (xb : Bool) (ph pp pq : Bs) (pb : Bool) (x p : Bs) (w : World) (hr : Ready w) (hlx : x.length ≤ 134217728) (hlp : p.length ≤ 134217728) (hx : readL x = some ⟨xh, xp, xq, xb⟩) (hp : readL p = some ⟨ph, pp, pq, pb⟩) :
    Calls Tryz.prog 73 #[.string ⟨x.toArray⟩, .string ⟨p.toArray⟩] w fun e w' => e = .returned (.bool (undT x p)) ∧ Below w.heap.size w w' := by
  have HU := Lib.hid (show undT x p = (decide (xh = ph) && undB xp pp) from undT_some hx hp)
  have HX := Lib.hid hx
  have HP := Lib.hid hp
  have hl1 : xp.length ≤ 9223372036854775807 := by have := (parse_lens (readL_some hx).1).2.1; simp at this; omega
  have hl2 : pp.length ≤ 9223372036854775807 := by have := (parse_lens (readL_some hp).1).2.1; simp at this; omega
  clear hx hp
  go_enter Tryz.func73, Tryz.ntmps73
  go_wp2_with fail
  refine (read_yes x _ _ hr hlx HX.out).mono ?_
  rintro e w1 ⟨rfl, hb1⟩
  have hBA := Lib.hid (box_new w1 145 (.string ⟨xh.toArray⟩) (.string ⟨xp.toArray⟩) (.string ⟨xq.toArray⟩) (.bool xb))
  have hB2 := Lib.hid (hb1.alloc hb1.size (.cells #[.string ⟨xh.toArray⟩, .string ⟨xp.toArray⟩, .string ⟨xq.toArray⟩, .bool xb] 145))
  have hr2 := Lib.hid (hr.below hB2.out)
  clear hb1
  go_wp2_with fail
  refine (read_yes p _ _ hr2.out hlp HP.out).mono ?_
  rintro e w2 ⟨rfl, hb2⟩
  have hA2 := hBA.out.below hb2 (by simp)
  have HB3 := Lib.hid (hB2.out.trans (hb2.mono hB2.out.size))
  obtain ⟨⟨c0, c1, c2, c3⟩, _, hz⟩ := hA2.facts
  clear hb2
  go_wp2_with (go_at_call 103; refine (under_any xh xp xq ph pp pq xb pb _ (by omega) (by omega)).mono ?_; rintro e w3 ⟨rfl, hb3⟩)
  go_ret
  exact ⟨ret_bool' (by rw [HU.out]; rfl), HB3.out.trans (((Below.refl _ _).alloc (Nat.le_refl _) _).trans (hb3.mono (by simp)) |>.mono HB3.out.size)⟩

theorem und_any (x p : Bs) (w : World) (hr : Ready w) (hlx : x.length ≤ 134217728) (hlp : p.length ≤ 134217728) :
    Calls Tryz.prog 73 #[.string ⟨x.toArray⟩, .string ⟨p.toArray⟩] w fun e w' => e = .returned (.bool (undT x p)) ∧ Below w.heap.size w w' := by
  cases hx : readL x with
  | none =>
    cases hp : readL p with
    | none => exact und_nn x p w hr hlx hlp hx hp
    | some b =>
      obtain ⟨ph, pp, pq, pb⟩ := b
      exact und_ns ph pp pq pb x p w hr hlx hlp hx hp
  | some a =>
    obtain ⟨xh, xp, xq, xb⟩ := a
    cases hp : readL p with
    | none => exact und_sn xh xp xq xb x p w hr hlx hlp hx hp
    | some b =>
      obtain ⟨ph, pp, pq, pb⟩ := b
      exact und_ss xh xp xq xb ph pp pq pb x p w hr hlx hlp hx hp

/-- An item's value: its tags lie in the slice u. -/
@[reducible] def itV (t : Int) (a : Bs) (u : Value) : Value := .agg #[.int .i64 t, .string ⟨a.toArray⟩, u]

theorem matchB_false {p : Pg} {x : It} (h : ¬ ((readL x.addr).isSome = true ∧ checkN p = 0 ∧ p.tenant = x.tenant)) : matchB p x = false := by
  rw [Bool.eq_false_iff]
  intro hm
  obtain ⟨h1, h2, h3, _⟩ := (matchB_iff p x).1 hm
  exact h ⟨h1, h2, h3⟩
theorem matchB_when {p : Pg} {x : It} (h1 : (readL x.addr).isSome = true) (h2 : checkN p = 0) (h3 : p.tenant = x.tenant) : matchB p x = (if p.kind = 1 then decide (p.value = x.addr) else if p.kind = 2 then undT x.addr p.value else decide (p.value ∈ x.tags)) := by
  unfold matchB
  rw [h1, h2, h3]
  simp

theorem match_none (k t : Int) (v : Bs) (xt : Int) (xa : Bs) (u : Value) (tags : List Bs) (w : World) (hr : Ready w) (hl : v.length ≤ 134217728) (hlx : xa.length ≤ 134217728) (hn : readL xa = none) :
    Calls Tryz.prog 48 #[.agg #[.int .i64 k, .int .i64 t, .string ⟨v.toArray⟩], .agg #[.int .i64 xt, .string ⟨xa.toArray⟩, u]] w fun e w' => e = .returned (.bool (matchB ⟨k, t, v⟩ ⟨xt, xa, tags⟩)) ∧ Below w.heap.size w w' := by
  have HM := Lib.hid (matchB_false (p := ⟨k, t, v⟩) (x := ⟨xt, xa, tags⟩) (by rintro ⟨h, _⟩; rw [show readL (It.mk xt xa tags).addr = none from hn] at h; cases h))
  have HN := Lib.hid hn
  clear hn
  have HX := Lib.hid (box3_new w 40 (.int .i64 k) (.int .i64 t) (.string ⟨v.toArray⟩))
  have HY := Lib.hid (box3_new (w.alloc (.cells #[.int .i64 k, .int .i64 t, .string ⟨v.toArray⟩] 40)) 46 (.int .i64 xt) (.string ⟨xa.toArray⟩) u)
  have HX2 := Lib.hid (HX.out.alloc (.cells #[.int .i64 xt, .string ⟨xa.toArray⟩, u] 46))
  have HB := Lib.hid (((Below.refl w.heap.size w).alloc (Nat.le_refl _) (.cells #[.int .i64 k, .int .i64 t, .string ⟨v.toArray⟩] 40)).alloc (by simp) (.cells #[.int .i64 xt, .string ⟨xa.toArray⟩, u] 46))
  have HRD := Lib.hid (hr.below HB.out)
  go_enter Tryz.func48, Tryz.ntmps48
  go_wp2_with fail
  refine (read_no xa _ HRD.out hlx HN.out).mono ?_
  rintro e w1 ⟨rfl, hb1⟩
  have hX1 := HX2.out.older hb1
  have hY1 := HY.out.older hb1
  rw [show (w.alloc (.cells #[.int .i64 k, .int .i64 t, .string ⟨v.toArray⟩] 40)).heap.size = w.heap.size + 1 by simp] at hY1
  have HB1 := Lib.hid (HB.out.trans (hb1.mono (by simp; omega)))
  have HA1 := Lib.hid (HB1.out.alloc HB1.out.size (.cells #[.string ⟨#[]⟩, .string ⟨#[]⟩, .string ⟨#[]⟩, .bool false] 145))
  have HR1 := Lib.hid (hr.below HA1.out)
  have HX1 := Lib.hid (hX1.alloc (.cells #[.string ⟨#[]⟩, .string ⟨#[]⟩, .string ⟨#[]⟩, .bool false] 145))
  have HY1 := Lib.hid (hY1.alloc (.cells #[.string ⟨#[]⟩, .string ⟨#[]⟩, .string ⟨#[]⟩, .bool false] 145))
  obtain ⟨⟨c0, c1, c2⟩, _, hz⟩ := hX1.facts
  obtain ⟨⟨d0, d1, d2⟩, _, hzy⟩ := hY1.facts
  clear hb1 hX1 hY1
  go_wp2_with fail
  go_ret
  exact ⟨ret_bool' HM.out.symm, HA1.out⟩

theorem match_bad1 (k : Int) (t : Int) (v : Bs) (xt : Int) (xa : Bs) (u : Value) (tags : List Bs) (w : World) (hr : Ready w) (hl : v.length ≤ 134217728) (hlx : xa.length ≤ 134217728) (ah ap aq : Bs) (ab : Bool) (hn : readL xa = some ⟨ah, ap, aq, ab⟩) (hc : ¬ checkN ⟨k, t, v⟩ = 0) :
    Calls Tryz.prog 48 #[.agg #[.int .i64 k, .int .i64 t, .string ⟨v.toArray⟩], .agg #[.int .i64 xt, .string ⟨xa.toArray⟩, u]] w fun e w' => e = .returned (.bool (matchB ⟨k, t, v⟩ ⟨xt, xa, tags⟩)) ∧ Below w.heap.size w w' := by
  have hS : (readL (It.mk xt xa tags).addr).isSome = true := by show (readL xa).isSome = true; rw [hn]; rfl
  have HM := Lib.hid (matchB_false (p := ⟨k, t, v⟩) (x := ⟨xt, xa, tags⟩) (by rintro ⟨_, h, _⟩; exact hc h))
  have HC := Lib.hid (chkV_err (p := ⟨k, t, v⟩) rfl hc)
  clear hc
  have HN := Lib.hid hn
  clear hn hS
  have HX := Lib.hid (box3_new w 40 (.int .i64 k) (.int .i64 t) (.string ⟨v.toArray⟩))
  have HY := Lib.hid (box3_new (w.alloc (.cells #[.int .i64 k, .int .i64 t, .string ⟨v.toArray⟩] 40)) 46 (.int .i64 xt) (.string ⟨xa.toArray⟩) u)
  have HX2 := Lib.hid (HX.out.alloc (.cells #[.int .i64 xt, .string ⟨xa.toArray⟩, u] 46))
  have HB := Lib.hid (((Below.refl w.heap.size w).alloc (Nat.le_refl _) (.cells #[.int .i64 k, .int .i64 t, .string ⟨v.toArray⟩] 40)).alloc (by simp) (.cells #[.int .i64 xt, .string ⟨xa.toArray⟩, u] 46))
  have HRD := Lib.hid (hr.below HB.out)
  go_enter Tryz.func48, Tryz.ntmps48
  go_wp2_with fail
  refine (read_yes xa _ _ HRD.out hlx HN.out).mono ?_
  rintro e w1 ⟨rfl, hb1⟩
  have hX1 := HX2.out.older hb1
  have hY1 := HY.out.older hb1
  rw [show (w.alloc (.cells #[.int .i64 k, .int .i64 t, .string ⟨v.toArray⟩] 40)).heap.size = w.heap.size + 1 by simp] at hY1
  have HB1 := Lib.hid (HB.out.trans (hb1.mono (by simp; omega)))
  have HA1 := Lib.hid (HB1.out.alloc HB1.out.size (.cells #[.string ⟨ah.toArray⟩, .string ⟨ap.toArray⟩, .string ⟨aq.toArray⟩, .bool ab] 145))
  have HR1 := Lib.hid (hr.below HA1.out)
  have HX1 := Lib.hid (hX1.alloc (.cells #[.string ⟨ah.toArray⟩, .string ⟨ap.toArray⟩, .string ⟨aq.toArray⟩, .bool ab] 145))
  have HY1 := Lib.hid (hY1.alloc (.cells #[.string ⟨ah.toArray⟩, .string ⟨ap.toArray⟩, .string ⟨aq.toArray⟩, .bool ab] 145))
  obtain ⟨⟨c0, c1, c2⟩, _, hz⟩ := hX1.facts
  obtain ⟨⟨d0, d1, d2⟩, _, hzy⟩ := hY1.facts
  clear hb1 hX1 hY1
  go_wp2_with (go_at_call 39; refine (check_any ⟨k, t, v⟩ _ HR1.out hl).mono ?_; rintro e w2 ⟨rfl, hb2⟩; rw [HC.out]; have hX2 := HX1.out.older hb2; have hY2 := HY1.out.older hb2; obtain ⟨⟨e0, e1, e2⟩, _, hz2⟩ := hX2.facts; obtain ⟨⟨f0, f1, f2⟩, _, hzy2⟩ := hY2.facts; have HB2 := Lib.hid (HA1.out.trans (hb2.mono HA1.out.size)); clear c0 c1 c2 d0 d1 d2)
  go_ret
  exact ⟨ret_bool' HM.out.symm, HB2.out⟩

theorem match_bad2 (k : Int) (t : Int) (v : Bs) (xt : Int) (xa : Bs) (u : Value) (tags : List Bs) (w : World) (hr : Ready w) (hl : v.length ≤ 134217728) (hlx : xa.length ≤ 134217728) (ah ap aq : Bs) (ab : Bool) (hn : readL xa = some ⟨ah, ap, aq, ab⟩) (hc : checkN ⟨k, t, v⟩ = 0) (hne : ¬ t = xt) :
    Calls Tryz.prog 48 #[.agg #[.int .i64 k, .int .i64 t, .string ⟨v.toArray⟩], .agg #[.int .i64 xt, .string ⟨xa.toArray⟩, u]] w fun e w' => e = .returned (.bool (matchB ⟨k, t, v⟩ ⟨xt, xa, tags⟩)) ∧ Below w.heap.size w w' := by
  have hS : (readL (It.mk xt xa tags).addr).isSome = true := by show (readL xa).isSome = true; rw [hn]; rfl
  have HM := Lib.hid (matchB_false (p := ⟨k, t, v⟩) (x := ⟨xt, xa, tags⟩) (by rintro ⟨_, _, h⟩; exact hne h))
  have HC := Lib.hid (chkV_ok hc)
  have htt : (t == xt) = false := beq_eq_false_iff_ne.2 hne
  have htt2 : (t != xt) = true := by rw [bne, htt]; rfl
  clear hc hne
  have HN := Lib.hid hn
  clear hn hS
  have HX := Lib.hid (box3_new w 40 (.int .i64 k) (.int .i64 t) (.string ⟨v.toArray⟩))
  have HY := Lib.hid (box3_new (w.alloc (.cells #[.int .i64 k, .int .i64 t, .string ⟨v.toArray⟩] 40)) 46 (.int .i64 xt) (.string ⟨xa.toArray⟩) u)
  have HX2 := Lib.hid (HX.out.alloc (.cells #[.int .i64 xt, .string ⟨xa.toArray⟩, u] 46))
  have HB := Lib.hid (((Below.refl w.heap.size w).alloc (Nat.le_refl _) (.cells #[.int .i64 k, .int .i64 t, .string ⟨v.toArray⟩] 40)).alloc (by simp) (.cells #[.int .i64 xt, .string ⟨xa.toArray⟩, u] 46))
  have HRD := Lib.hid (hr.below HB.out)
  go_enter Tryz.func48, Tryz.ntmps48
  go_wp2_with fail
  refine (read_yes xa _ _ HRD.out hlx HN.out).mono ?_
  rintro e w1 ⟨rfl, hb1⟩
  have hX1 := HX2.out.older hb1
  have hY1 := HY.out.older hb1
  rw [show (w.alloc (.cells #[.int .i64 k, .int .i64 t, .string ⟨v.toArray⟩] 40)).heap.size = w.heap.size + 1 by simp] at hY1
  have HB1 := Lib.hid (HB.out.trans (hb1.mono (by simp; omega)))
  have HA1 := Lib.hid (HB1.out.alloc HB1.out.size (.cells #[.string ⟨ah.toArray⟩, .string ⟨ap.toArray⟩, .string ⟨aq.toArray⟩, .bool ab] 145))
  have HR1 := Lib.hid (hr.below HA1.out)
  have HX1 := Lib.hid (hX1.alloc (.cells #[.string ⟨ah.toArray⟩, .string ⟨ap.toArray⟩, .string ⟨aq.toArray⟩, .bool ab] 145))
  have HY1 := Lib.hid (hY1.alloc (.cells #[.string ⟨ah.toArray⟩, .string ⟨ap.toArray⟩, .string ⟨aq.toArray⟩, .bool ab] 145))
  obtain ⟨⟨c0, c1, c2⟩, _, hz⟩ := hX1.facts
  obtain ⟨⟨d0, d1, d2⟩, _, hzy⟩ := hY1.facts
  clear hb1 hX1 hY1
  go_wp2_with (go_at_call 39; refine (check_any ⟨k, t, v⟩ _ HR1.out hl).mono ?_; rintro e w2 ⟨rfl, hb2⟩; rw [HC.out]; have hX2 := HX1.out.older hb2; have hY2 := HY1.out.older hb2; obtain ⟨⟨e0, e1, e2⟩, _, hz2⟩ := hX2.facts; obtain ⟨⟨f0, f1, f2⟩, _, hzy2⟩ := hY2.facts; have HB2 := Lib.hid (HA1.out.trans (hb2.mono HA1.out.size)); clear c0 c1 c2 d0 d1 d2)
  go_ret
  exact ⟨ret_bool' HM.out.symm, HB2.out⟩

theorem match_exact (t : Int) (v : Bs) (xt : Int) (xa : Bs) (u : Value) (tags : List Bs) (w : World) (hr : Ready w) (hl : v.length ≤ 134217728) (hlx : xa.length ≤ 134217728) (ah ap aq : Bs) (ab : Bool) (hn : readL xa = some ⟨ah, ap, aq, ab⟩) (hc : checkN ⟨1, t, v⟩ = 0) (ht : t = xt) (htags : StrsV w u tags) (htl : tags.length ≤ 9223372036854775807) :
    Calls Tryz.prog 48 #[.agg #[.int .i64 1, .int .i64 t, .string ⟨v.toArray⟩], .agg #[.int .i64 xt, .string ⟨xa.toArray⟩, u]] w fun e w' => e = .returned (.bool (matchB ⟨1, t, v⟩ ⟨xt, xa, tags⟩)) ∧ Below w.heap.size w w' := by
  have hS : (readL (It.mk xt xa tags).addr).isSome = true := by show (readL xa).isSome = true; rw [hn]; rfl
  have HM := Lib.hid (matchB_when (p := ⟨1, t, v⟩) (x := ⟨xt, xa, tags⟩) hS hc ht)
  have HC := Lib.hid (chkV_ok hc)
  have htt : (t == xt) = true := beq_iff_eq.2 ht
  have htt2 : (t != xt) = false := by rw [bne, htt]; rfl
  have HT := Lib.hid htags
  clear hc ht htags
  have HN := Lib.hid hn
  clear hn hS
  have HX := Lib.hid (box3_new w 40 (.int .i64 1) (.int .i64 t) (.string ⟨v.toArray⟩))
  have HY := Lib.hid (box3_new (w.alloc (.cells #[.int .i64 1, .int .i64 t, .string ⟨v.toArray⟩] 40)) 46 (.int .i64 xt) (.string ⟨xa.toArray⟩) u)
  have HX2 := Lib.hid (HX.out.alloc (.cells #[.int .i64 xt, .string ⟨xa.toArray⟩, u] 46))
  have HB := Lib.hid (((Below.refl w.heap.size w).alloc (Nat.le_refl _) (.cells #[.int .i64 1, .int .i64 t, .string ⟨v.toArray⟩] 40)).alloc (by simp) (.cells #[.int .i64 xt, .string ⟨xa.toArray⟩, u] 46))
  have HRD := Lib.hid (hr.below HB.out)
  go_enter Tryz.func48, Tryz.ntmps48
  go_wp2_with fail
  refine (read_yes xa _ _ HRD.out hlx HN.out).mono ?_
  rintro e w1 ⟨rfl, hb1⟩
  have hX1 := HX2.out.older hb1
  have hY1 := HY.out.older hb1
  rw [show (w.alloc (.cells #[.int .i64 1, .int .i64 t, .string ⟨v.toArray⟩] 40)).heap.size = w.heap.size + 1 by simp] at hY1
  have HB1 := Lib.hid (HB.out.trans (hb1.mono (by simp; omega)))
  have HA1 := Lib.hid (HB1.out.alloc HB1.out.size (.cells #[.string ⟨ah.toArray⟩, .string ⟨ap.toArray⟩, .string ⟨aq.toArray⟩, .bool ab] 145))
  have HR1 := Lib.hid (hr.below HA1.out)
  have HX1 := Lib.hid (hX1.alloc (.cells #[.string ⟨ah.toArray⟩, .string ⟨ap.toArray⟩, .string ⟨aq.toArray⟩, .bool ab] 145))
  have HY1 := Lib.hid (hY1.alloc (.cells #[.string ⟨ah.toArray⟩, .string ⟨ap.toArray⟩, .string ⟨aq.toArray⟩, .bool ab] 145))
  obtain ⟨⟨c0, c1, c2⟩, _, hz⟩ := hX1.facts
  obtain ⟨⟨d0, d1, d2⟩, _, hzy⟩ := hY1.facts
  clear hb1 hX1 hY1
  go_wp2_with (first | (go_at_call 39; refine (check_any ⟨1, t, v⟩ _ HR1.out hl).mono ?_; rintro e w2 ⟨rfl, hb2⟩; rw [HC.out]; have hX2 := HX1.out.older hb2; have hY2 := HY1.out.older hb2; obtain ⟨⟨e0, e1, e2⟩, _, hz2⟩ := hX2.facts; obtain ⟨⟨f0, f1, f2⟩, _, hzy2⟩ := hY2.facts; have HB2 := Lib.hid (HA1.out.trans (hb2.mono HA1.out.size)); clear c0 c1 c2 d0 d1 d2))
  go_ret
  exact ⟨ret_bool' (by rw [HM.out, Bool.eq_iff_iff]; simp), HB2.out⟩

theorem match_prefix (t : Int) (v : Bs) (xt : Int) (xa : Bs) (u : Value) (tags : List Bs) (w : World) (hr : Ready w) (hl : v.length ≤ 134217728) (hlx : xa.length ≤ 134217728) (ah ap aq : Bs) (ab : Bool) (hn : readL xa = some ⟨ah, ap, aq, ab⟩) (hc : checkN ⟨2, t, v⟩ = 0) (ht : t = xt) (htags : StrsV w u tags) (htl : tags.length ≤ 9223372036854775807) :
    Calls Tryz.prog 48 #[.agg #[.int .i64 2, .int .i64 t, .string ⟨v.toArray⟩], .agg #[.int .i64 xt, .string ⟨xa.toArray⟩, u]] w fun e w' => e = .returned (.bool (matchB ⟨2, t, v⟩ ⟨xt, xa, tags⟩)) ∧ Below w.heap.size w w' := by
  have hS : (readL (It.mk xt xa tags).addr).isSome = true := by show (readL xa).isSome = true; rw [hn]; rfl
  have HM := Lib.hid (matchB_when (p := ⟨2, t, v⟩) (x := ⟨xt, xa, tags⟩) hS hc ht)
  have HC := Lib.hid (chkV_ok hc)
  have htt : (t == xt) = true := beq_iff_eq.2 ht
  have htt2 : (t != xt) = false := by rw [bne, htt]; rfl
  have HT := Lib.hid htags
  clear hc ht htags
  have HN := Lib.hid hn
  clear hn hS
  have HX := Lib.hid (box3_new w 40 (.int .i64 2) (.int .i64 t) (.string ⟨v.toArray⟩))
  have HY := Lib.hid (box3_new (w.alloc (.cells #[.int .i64 2, .int .i64 t, .string ⟨v.toArray⟩] 40)) 46 (.int .i64 xt) (.string ⟨xa.toArray⟩) u)
  have HX2 := Lib.hid (HX.out.alloc (.cells #[.int .i64 xt, .string ⟨xa.toArray⟩, u] 46))
  have HB := Lib.hid (((Below.refl w.heap.size w).alloc (Nat.le_refl _) (.cells #[.int .i64 2, .int .i64 t, .string ⟨v.toArray⟩] 40)).alloc (by simp) (.cells #[.int .i64 xt, .string ⟨xa.toArray⟩, u] 46))
  have HRD := Lib.hid (hr.below HB.out)
  go_enter Tryz.func48, Tryz.ntmps48
  go_wp2_with fail
  refine (read_yes xa _ _ HRD.out hlx HN.out).mono ?_
  rintro e w1 ⟨rfl, hb1⟩
  have hX1 := HX2.out.older hb1
  have hY1 := HY.out.older hb1
  rw [show (w.alloc (.cells #[.int .i64 2, .int .i64 t, .string ⟨v.toArray⟩] 40)).heap.size = w.heap.size + 1 by simp] at hY1
  have HB1 := Lib.hid (HB.out.trans (hb1.mono (by simp; omega)))
  have HA1 := Lib.hid (HB1.out.alloc HB1.out.size (.cells #[.string ⟨ah.toArray⟩, .string ⟨ap.toArray⟩, .string ⟨aq.toArray⟩, .bool ab] 145))
  have HR1 := Lib.hid (hr.below HA1.out)
  have HX1 := Lib.hid (hX1.alloc (.cells #[.string ⟨ah.toArray⟩, .string ⟨ap.toArray⟩, .string ⟨aq.toArray⟩, .bool ab] 145))
  have HY1 := Lib.hid (hY1.alloc (.cells #[.string ⟨ah.toArray⟩, .string ⟨ap.toArray⟩, .string ⟨aq.toArray⟩, .bool ab] 145))
  obtain ⟨⟨c0, c1, c2⟩, _, hz⟩ := hX1.facts
  obtain ⟨⟨d0, d1, d2⟩, _, hzy⟩ := hY1.facts
  clear hb1 hX1 hY1
  go_wp2_with (first | (go_at_call 39; refine (check_any ⟨2, t, v⟩ _ HR1.out hl).mono ?_; rintro e w2 ⟨rfl, hb2⟩; rw [HC.out]; have hX2 := HX1.out.older hb2; have hY2 := HY1.out.older hb2; obtain ⟨⟨e0, e1, e2⟩, _, hz2⟩ := hX2.facts; obtain ⟨⟨f0, f1, f2⟩, _, hzy2⟩ := hY2.facts; have HB2 := Lib.hid (HA1.out.trans (hb2.mono HA1.out.size)); clear c0 c1 c2 d0 d1 d2) | (go_at_call 73; refine (und_any xa v _ (hr.below HB2.out) hlx hl).mono ?_; rintro e w3 ⟨rfl, hb3⟩))
  go_ret
  exact ⟨ret_bool' (by rw [HM.out, Bool.eq_iff_iff]; simp), HB2.out.trans (hb3.mono HB2.out.size)⟩

theorem match_tagged (t : Int) (v : Bs) (xt : Int) (xa : Bs) (u : Value) (tags : List Bs) (w : World) (hr : Ready w) (hl : v.length ≤ 134217728) (hlx : xa.length ≤ 134217728) (ah ap aq : Bs) (ab : Bool) (hn : readL xa = some ⟨ah, ap, aq, ab⟩) (hc : checkN ⟨3, t, v⟩ = 0) (ht : t = xt) (htags : StrsV w u tags) (htl : tags.length ≤ 9223372036854775807) :
    Calls Tryz.prog 48 #[.agg #[.int .i64 3, .int .i64 t, .string ⟨v.toArray⟩], .agg #[.int .i64 xt, .string ⟨xa.toArray⟩, u]] w fun e w' => e = .returned (.bool (matchB ⟨3, t, v⟩ ⟨xt, xa, tags⟩)) ∧ Below w.heap.size w w' := by
  have hS : (readL (It.mk xt xa tags).addr).isSome = true := by show (readL xa).isSome = true; rw [hn]; rfl
  have HM := Lib.hid (matchB_when (p := ⟨3, t, v⟩) (x := ⟨xt, xa, tags⟩) hS hc ht)
  have HC := Lib.hid (chkV_ok hc)
  have htt : (t == xt) = true := beq_iff_eq.2 ht
  have htt2 : (t != xt) = false := by rw [bne, htt]; rfl
  have HT := Lib.hid htags
  clear hc ht htags
  have HN := Lib.hid hn
  clear hn hS
  have HX := Lib.hid (box3_new w 40 (.int .i64 3) (.int .i64 t) (.string ⟨v.toArray⟩))
  have HY := Lib.hid (box3_new (w.alloc (.cells #[.int .i64 3, .int .i64 t, .string ⟨v.toArray⟩] 40)) 46 (.int .i64 xt) (.string ⟨xa.toArray⟩) u)
  have HX2 := Lib.hid (HX.out.alloc (.cells #[.int .i64 xt, .string ⟨xa.toArray⟩, u] 46))
  have HB := Lib.hid (((Below.refl w.heap.size w).alloc (Nat.le_refl _) (.cells #[.int .i64 3, .int .i64 t, .string ⟨v.toArray⟩] 40)).alloc (by simp) (.cells #[.int .i64 xt, .string ⟨xa.toArray⟩, u] 46))
  have HRD := Lib.hid (hr.below HB.out)
  go_enter Tryz.func48, Tryz.ntmps48
  go_wp2_with fail
  refine (read_yes xa _ _ HRD.out hlx HN.out).mono ?_
  rintro e w1 ⟨rfl, hb1⟩
  have hX1 := HX2.out.older hb1
  have hY1 := HY.out.older hb1
  rw [show (w.alloc (.cells #[.int .i64 3, .int .i64 t, .string ⟨v.toArray⟩] 40)).heap.size = w.heap.size + 1 by simp] at hY1
  have HB1 := Lib.hid (HB.out.trans (hb1.mono (by simp; omega)))
  have HA1 := Lib.hid (HB1.out.alloc HB1.out.size (.cells #[.string ⟨ah.toArray⟩, .string ⟨ap.toArray⟩, .string ⟨aq.toArray⟩, .bool ab] 145))
  have HR1 := Lib.hid (hr.below HA1.out)
  have HX1 := Lib.hid (hX1.alloc (.cells #[.string ⟨ah.toArray⟩, .string ⟨ap.toArray⟩, .string ⟨aq.toArray⟩, .bool ab] 145))
  have HY1 := Lib.hid (hY1.alloc (.cells #[.string ⟨ah.toArray⟩, .string ⟨ap.toArray⟩, .string ⟨aq.toArray⟩, .bool ab] 145))
  obtain ⟨⟨c0, c1, c2⟩, _, hz⟩ := hX1.facts
  obtain ⟨⟨d0, d1, d2⟩, _, hzy⟩ := hY1.facts
  clear hb1 hX1 hY1
  go_wp2_with (first | (go_at_call 39; refine (check_any ⟨3, t, v⟩ _ HR1.out hl).mono ?_; rintro e w2 ⟨rfl, hb2⟩; rw [HC.out]; have hX2 := HX1.out.older hb2; have hY2 := HY1.out.older hb2; obtain ⟨⟨e0, e1, e2⟩, _, hz2⟩ := hX2.facts; obtain ⟨⟨f0, f1, f2⟩, _, hzy2⟩ := hY2.facts; have HB2 := Lib.hid (HA1.out.trans (hb2.mono HA1.out.size)); clear c0 c1 c2 d0 d1 d2) | (go_at_call 42; refine (contains_any u tags v _ (HT.out.below HB2.out) htl).mono ?_; rintro e w3 ⟨rfl, rfl⟩))
  go_ret
  exact ⟨ret_bool' (by rw [HM.out, Bool.eq_iff_iff]; simp), HB2.out⟩

theorem match_any (p : Pg) (x : It) (u : Value) (w : World) (hr : Ready w) (hl : p.value.length ≤ 134217728) (hlx : x.addr.length ≤ 134217728) (htags : StrsV w u x.tags) (htl : x.tags.length ≤ 9223372036854775807) :
    Calls Tryz.prog 48 #[pgV p, itV x.tenant x.addr u] w fun e w' => e = .returned (.bool (matchB p x)) ∧ Below w.heap.size w w' := by
  obtain ⟨k, t, v⟩ := p
  obtain ⟨xt, xa, tags⟩ := x
  simp only at hl hlx htags htl
  cases hn : readL xa with
  | none => exact match_none k t v xt xa u tags w hr hl hlx hn
  | some a =>
    obtain ⟨ah, ap, aq, ab⟩ := a
    by_cases hc : checkN ⟨k, t, v⟩ = 0
    · by_cases ht : t = xt
      · have hk := (checkN_ok hc).1
        have ck : k = 1 ∨ k = 2 ∨ k = 3 := by simp only at hk; omega
        rcases ck with rfl | rfl | rfl
        · exact match_exact t v xt xa u tags w hr hl hlx ah ap aq ab hn hc ht htags htl
        · exact match_prefix t v xt xa u tags w hr hl hlx ah ap aq ab hn hc ht htags htl
        · exact match_tagged t v xt xa u tags w hr hl hlx ah ap aq ab hn hc ht htags htl
      · exact match_bad2 k t v xt xa u tags w hr hl hlx ah ap aq ab hn hc ht
    · exact match_bad1 k t v xt xa u tags w hr hl hlx ah ap aq ab hn hc
end A1
end Go.Proofs.YtjijijjkkhpjnaaGreatDoor
end

section
section
namespace Go.Proofs.YtjijijjkkhpjnaaGreatDoor
open Go.RowKit Pl Ad
attribute [local go_sem] ba_get ba_append ba_extract_end ba_extract_zero ba_extract
set_option maxRecDepth 100000
set_option maxHeartbeats 4000000
set_option linter.unusedVariables false
namespace A1

/-- The variable words. -/
structure WordsAt (w : World) : Prop where
  lt : 0 < w.heap.size
  c1 : w.cell? ⟨0, 1, none⟩ = some (.string ⟨([101, 120, 97, 99, 116] : Bs).toArray⟩)
  c2 : w.cell? ⟨0, 2, none⟩ = some (.string ⟨([112, 114, 101, 102, 105, 120] : Bs).toArray⟩)
  c3 : w.cell? ⟨0, 3, none⟩ = some (.string ⟨([116, 97, 103] : Bs).toArray⟩)
theorem WordsAt.below {w w' : World} (h : WordsAt w) (hb : Below w.heap.size w w') : WordsAt w' :=
  ⟨Nat.lt_of_lt_of_le h.lt hb.size, (hb.cell (p := ⟨0, 1, none⟩) h.lt).trans h.c1, (hb.cell (p := ⟨0, 2, none⟩) h.lt).trans h.c2, (hb.cell (p := ⟨0, 3, none⟩) h.lt).trans h.c3⟩
theorem decOf_eq (n : Nat) (h : n < 16) : Lib.decDigits n = decOf (n : Int) := by
  have g : ∀ m : Fin 16, Lib.decDigits m.val = decOf (m.val : Int) := by decide +kernel
  exact g ⟨n, h⟩
theorem decOf_len (t : Int) : (decOf t).length ≤ 2 := by unfold decOf; split <;> simp
theorem itoa_any (n : Nat) (h : n < 16) (w : World) :
    Calls Tryz.prog 49 #[.int .i64 n] w fun e w' => e = .returned (.string ⟨(decOf (n : Int)).toArray⟩) ∧ w = w' :=
  (Tryz.strconv_Itoa_small n (by omega) w).mono fun e w' hx => ⟨by rw [hx.1, decOf_eq n h], hx.2.symm⟩

theorem format_err (p : Pg) (w : World) (hr : Ready w) (hl : p.value.length ≤ 134217728) (hc : ¬ checkN p = 0) :
    Calls Tryz.prog 25 #[pgV p] w fun e w' => e = .returned (.tuple #[.string ⟨#[]⟩, .iface 108 (.int .i64 2)]) ∧ Below w.heap.size w w' := by
  have HC := Lib.hid (chkV_err (p := p) rfl hc)
  obtain ⟨k, t, v⟩ := p
  simp only at hl
  have HB := Lib.hid ((Below.refl w.heap.size w).alloc (Nat.le_refl _) (.cells #[.int .i64 k, .int .i64 t, .string ⟨v.toArray⟩] 40))
  have HRD := Lib.hid (hr.below HB.out)
  clear hc
  go_enter Tryz.func25, Tryz.ntmps25
  go_wp2_with (go_at_call 39; refine (check_any ⟨k, t, v⟩ _ HRD.out hl).mono ?_; rintro e w2 ⟨rfl, hb2⟩; rw [HC.out])
  go_ret2
  exact ⟨rfl, HB.out.trans (hb2.mono (by simp))⟩

theorem format_1 (n : Nat) (v : Bs) (w : World) (hr : Ready w) (hw : WordsAt w) (hl : v.length ≤ 134217728) (hn : n < 16) (hc : checkN ⟨1, n, v⟩ = 0) :
    Calls Tryz.prog 25 #[.agg #[.int .i64 1, .int .i64 n, .string ⟨v.toArray⟩]] w fun e w' => e = .returned (.tuple #[.string ⟨(fmtT ⟨1, n, v⟩).toArray⟩, .nilIface]) ∧ Below w.heap.size w w' := by
  have HC := Lib.hid (chkV_ok hc)
  have HF := Lib.hid (show fmtT ⟨1, n, v⟩ = [101, 120, 97, 99, 116] ++ 32 :: (decOf (n : Int) ++ 32 :: v) from rfl)
  have hdl := decOf_len (n : Int)
  have HX := Lib.hid (box3_new w 40 (.int .i64 1) (.int .i64 n) (.string ⟨v.toArray⟩))
  have HB := Lib.hid ((Below.refl w.heap.size w).alloc (Nat.le_refl _) (.cells #[.int .i64 1, .int .i64 n, .string ⟨v.toArray⟩] 40))
  have HRD := Lib.hid (hr.below HB.out)
  have HW := Lib.hid (hw.below HB.out)
  clear hc hw
  go_enter Tryz.func25, Tryz.ntmps25
  go_wp2_with (go_at_call 39; refine (check_any ⟨1, n, v⟩ _ HRD.out hl).mono ?_; rintro e w2 ⟨rfl, hb2⟩; rw [HC.out])
  have hX2 := HX.out.older hb2
  obtain ⟨⟨c0, c1, c2⟩, _, hz⟩ := hX2.facts
  obtain ⟨_, g1, g2, g3⟩ := HW.out.below hb2
  have HB2 := Lib.hid (HB.out.trans (hb2.mono (by simp)))
  clear hb2 hX2
  generalize hd : decOf (n : Int) = d at hdl HF
  have HD := Lib.hid hd
  clear hd
  go_quiet ((go_at_call 49; exact quiet_eq ((itoa_any n hn _).mono fun e w' hx => by rw [HD.out] at hx; exact hx)))
  go_wp2
  go_ret2
  exact ⟨by rw [HF.out]; simp, below_drewN HB2.out _⟩

theorem format_2 (n : Nat) (v : Bs) (w : World) (hr : Ready w) (hw : WordsAt w) (hl : v.length ≤ 134217728) (hn : n < 16) (hc : checkN ⟨2, n, v⟩ = 0) :
    Calls Tryz.prog 25 #[.agg #[.int .i64 2, .int .i64 n, .string ⟨v.toArray⟩]] w fun e w' => e = .returned (.tuple #[.string ⟨(fmtT ⟨2, n, v⟩).toArray⟩, .nilIface]) ∧ Below w.heap.size w w' := by
  have HC := Lib.hid (chkV_ok hc)
  have HF := Lib.hid (show fmtT ⟨2, n, v⟩ = [112, 114, 101, 102, 105, 120] ++ 32 :: (decOf (n : Int) ++ 32 :: v) from rfl)
  have hdl := decOf_len (n : Int)
  have HX := Lib.hid (box3_new w 40 (.int .i64 2) (.int .i64 n) (.string ⟨v.toArray⟩))
  have HB := Lib.hid ((Below.refl w.heap.size w).alloc (Nat.le_refl _) (.cells #[.int .i64 2, .int .i64 n, .string ⟨v.toArray⟩] 40))
  have HRD := Lib.hid (hr.below HB.out)
  have HW := Lib.hid (hw.below HB.out)
  clear hc hw
  go_enter Tryz.func25, Tryz.ntmps25
  go_wp2_with (go_at_call 39; refine (check_any ⟨2, n, v⟩ _ HRD.out hl).mono ?_; rintro e w2 ⟨rfl, hb2⟩; rw [HC.out])
  have hX2 := HX.out.older hb2
  obtain ⟨⟨c0, c1, c2⟩, _, hz⟩ := hX2.facts
  obtain ⟨_, g1, g2, g3⟩ := HW.out.below hb2
  have HB2 := Lib.hid (HB.out.trans (hb2.mono (by simp)))
  clear hb2 hX2
  generalize hd : decOf (n : Int) = d at hdl HF
  have HD := Lib.hid hd
  clear hd
  go_quiet ((go_at_call 49; exact quiet_eq ((itoa_any n hn _).mono fun e w' hx => by rw [HD.out] at hx; exact hx)))
  go_wp2
  go_ret2
  exact ⟨by rw [HF.out]; simp, below_drewN HB2.out _⟩

theorem format_3 (n : Nat) (v : Bs) (w : World) (hr : Ready w) (hw : WordsAt w) (hl : v.length ≤ 134217728) (hn : n < 16) (hc : checkN ⟨3, n, v⟩ = 0) :
    Calls Tryz.prog 25 #[.agg #[.int .i64 3, .int .i64 n, .string ⟨v.toArray⟩]] w fun e w' => e = .returned (.tuple #[.string ⟨(fmtT ⟨3, n, v⟩).toArray⟩, .nilIface]) ∧ Below w.heap.size w w' := by
  have HC := Lib.hid (chkV_ok hc)
  have HF := Lib.hid (show fmtT ⟨3, n, v⟩ = [116, 97, 103] ++ 32 :: (decOf (n : Int) ++ 32 :: v) from rfl)
  have hdl := decOf_len (n : Int)
  have HX := Lib.hid (box3_new w 40 (.int .i64 3) (.int .i64 n) (.string ⟨v.toArray⟩))
  have HB := Lib.hid ((Below.refl w.heap.size w).alloc (Nat.le_refl _) (.cells #[.int .i64 3, .int .i64 n, .string ⟨v.toArray⟩] 40))
  have HRD := Lib.hid (hr.below HB.out)
  have HW := Lib.hid (hw.below HB.out)
  clear hc hw
  go_enter Tryz.func25, Tryz.ntmps25
  go_wp2_with (go_at_call 39; refine (check_any ⟨3, n, v⟩ _ HRD.out hl).mono ?_; rintro e w2 ⟨rfl, hb2⟩; rw [HC.out])
  have hX2 := HX.out.older hb2
  obtain ⟨⟨c0, c1, c2⟩, _, hz⟩ := hX2.facts
  obtain ⟨_, g1, g2, g3⟩ := HW.out.below hb2
  have HB2 := Lib.hid (HB.out.trans (hb2.mono (by simp)))
  clear hb2 hX2
  generalize hd : decOf (n : Int) = d at hdl HF
  have HD := Lib.hid hd
  clear hd
  go_quiet ((go_at_call 49; exact quiet_eq ((itoa_any n hn _).mono fun e w' hx => by rw [HD.out] at hx; exact hx)))
  go_wp2
  go_ret2
  exact ⟨by rw [HF.out]; simp, below_drewN HB2.out _⟩

theorem format_ok (p : Pg) (w : World) (hr : Ready w) (hw : WordsAt w) (hl : p.value.length ≤ 134217728) (hc : checkN p = 0) :
    Calls Tryz.prog 25 #[pgV p] w fun e w' => e = .returned (.tuple #[.string ⟨(fmtT p).toArray⟩, .nilIface]) ∧ Below w.heap.size w w' := by
  obtain ⟨k, t, v⟩ := p
  obtain ⟨hk, ht, _⟩ := checkN_ok hc
  simp only at hk ht hl
  obtain ⟨n, rfl⟩ := Int.eq_ofNat_of_zero_le ht.1
  have ck : k = 1 ∨ k = 2 ∨ k = 3 := by omega
  rcases ck with rfl | rfl | rfl
  · exact format_1 n v w hr hw hl (by omega) hc
  · exact format_2 n v w hr hw hl (by omega) hc
  · exact format_3 n v w hr hw hl (by omega) hc
end A1
end Go.Proofs.YtjijijjkkhpjnaaGreatDoor
end

section
namespace Go.Proofs.YtjijijjkkhpjnaaGreatDoor
open Go.RowKit Pl Ad
attribute [local go_sem] ba_get ba_append ba_extract_end ba_extract_zero ba_extract
set_option maxRecDepth 100000
set_option maxHeartbeats 4000000
set_option linter.unusedVariables false
namespace A1

theorem below_set3 {w W : World} {B R : Nat} (h : Below B W w) (hR : B ≤ R) (a b c : Value) : Below B W (((w.setCell ⟨R, 0, none⟩ a).setCell ⟨R, 1, none⟩ b).setCell ⟨R, 2, none⟩ c) :=
  ((h.setCell (p := ⟨R, 0, none⟩) hR a).setCell (p := ⟨R, 1, none⟩) hR b).setCell (p := ⟨R, 2, none⟩) hR c
theorem Box3.all {w : World} {R T : Nat} {v0 v1 v2 : Value} (h : Box3 w R T v0 v1 v2) : w.cell? ⟨R, 0, none⟩ = some v0 ∧ w.cell? ⟨R, 1, none⟩ = some v1 ∧ w.cell? ⟨R, 2, none⟩ = some v2 ∧ Box3 w R T v0 v1 v2 := ⟨h.facts.1.1, h.facts.1.2.1, h.facts.1.2.2, h⟩
end A1
end Go.Proofs.YtjijijjkkhpjnaaGreatDoor
end
end

section
namespace Go.Proofs.YtjijijjkkhpjnaaGreatDoor.Fr
open Go.ChangeShapes Go.WideShapes Go.ChangeAt Go.RowKit

/-- The cells of a datum that is a literal, a row of literals, or a row of rows. -/
def litV : Lit → Value
  | .int k n => .int k n
  | .string l => .string ⟨l.toArray⟩
  | .bool b => .bool b
  | _ => .nilIface
def cellsD1 : DataW Unit → List Value
  | .lit x => [litV x]
  | .agg l => l.flatMap fun | .lit x => [litV x] | _ => []
  | _ => []
def cellsD : DataW Unit → List Value
  | .lit x => [litV x]
  | .agg l => l.flatMap cellsD1
  | _ => []
/-- A world for the witness: the settled one, the listed variables holding what the row lists. -/
noncomputable def layOne (h : Array Obj) (x : String × DataW Unit) : Array Obj :=
  match Tryz.prog.globalNamed x.1 with
  | some g => h.modify g (holds (cellsD x.2).toArray)
  | none => h
/-- What a listed variable reads as. -/
theorem laid_reads {w : World} : ∀ {l : List (String × DataW Unit)} {ps : List MemPlace}, DataW.LaidVars Tryz.prog w l ps → ∀ n d, (n, d) ∈ l →
    ∃ g t cs fuel p, Tryz.prog.globalNamed n = some g ∧ (Tryz.prog.globals[g]?).map (·.type) = some t ∧ w.var? Tryz.prog n = some cs ∧ DataW.trod (fun _ => ()) Tryz.prog w 0 (fun _ => true) false fuel t cs.toList = some (d, p)
  | [], _, _, _, _, hm => by cases hm
  | (n', d') :: r, ps, h, n, d, hm => by
    obtain ⟨g, t, cs, fuel, p, q, h1, h2, h3, h4, h5, _⟩ := h
    rcases List.mem_cons.1 hm with e | e
    · cases e
      exact ⟨g, t, cs, fuel, p, h1, h2, h3, h4⟩
    · exact laid_reads h5 n d e
/-- The cells of a variable that is an array of strings. -/
theorem strings_laid {w : World} {n : Nat} {t : TypeId} {name : String} {ls : List (List UInt8)} {g : Nat} (hg : Tryz.prog.globalNamed name = some g) (ht : (Tryz.prog.globals[g]?).map (·.type) = some t) (hu : Tryz.prog.underlying t = some (.array n 9))
    (h : ∃ g t cs fuel p, Tryz.prog.globalNamed name = some g ∧ (Tryz.prog.globals[g]?).map (·.type) = some t ∧ w.var? Tryz.prog name = some cs ∧ DataW.trod (fun _ => ()) Tryz.prog w 0 (fun _ => true) false fuel t cs.toList = some (.agg (ls.map fun l => .lit (.string l)), p)) :
    ∀ (i : Nat) l, ls[i]? = some l → w.cell? ⟨g, i, none⟩ = some (.string ⟨l.toArray⟩) := by
  obtain ⟨g', t', cs, fuel, p, hg', ht', hv, hd⟩ := h
  obtain rfl := Option.some.inj (hg.symm.trans hg')
  obtain rfl := Option.some.inj (ht.symm.trans ht')
  obtain ⟨xs, m, _, hx, _, hxl, hall⟩ := DataW.trod_array hu hd
  have hmap : xs.map (·.1) = ls.map fun l => (DataW.lit (.string l) : DataW Unit) := by
    have := congrArg Prod.fst hx
    simpa using this.symm
  intro i l hl
  have hlen : ls.length = n := by have := congrArg List.length hmap; simp at this; omega
  have hi : i < n := by have := (List.getElem?_eq_some_iff.1 hl).1; omega
  have h1 := hall i hi
  rw [show Tryz.prog.cellsOf 9 = 1 by kernel_rfl, Nat.mul_one] at h1
  obtain ⟨b, hb⟩ : ∃ b, xs[i]? = some b := ⟨xs[i]'(by omega), List.getElem?_eq_getElem (by omega)⟩
  rw [hb] at h1
  obtain ⟨s, hcs, rfl, _⟩ := DataW.trod_string Tryz.underlying9 h1
  have h2 := congrArg (·[i]?) hmap
  simp only [List.getElem?_map, hb, hl, Option.map_some, Option.some.injEq, DataW.lit.injEq, Lit.string.injEq] at h2
  have h3 : cs[i]? = some (.string s) := by
    have := congrArg (·[0]?) hcs
    simpa [List.getElem?_take, List.getElem?_drop] using this
  rw [World.var?_cell hg hv i, h3]
  obtain ⟨⟨s⟩⟩ := s
  simp only at h2
  rw [← h2]

theorem words_laid {w : World} {laid : List (String × DataW Unit)} (h : laidMetH Tryz.prog laid w) (hp : (laid.all fun x => x.2.handleName?.isNone) = true) (hm : ("quayside/purge.words", Rows.laid_quayside_purge_words) ∈ laid) : A1.WordsAt w := by
  rw [Go.MakeChecks.laidMetH_plain Tryz.prog laid w hp] at h
  obtain ⟨ps, hv, _⟩ := h
  have hc := strings_laid (name := "quayside/purge.words") (g := 0) (ls := [[], [101, 120, 97, 99, 116], [112, 114, 101, 102, 105, 120], [116, 97, 103]]) (by kernel_rfl) (by kernel_rfl) Tryz.underlying123 (laid_reads hv _ _ hm)
  have c1 := hc 1 _ rfl
  refine ⟨?_, c1, hc 2 _ rfl, hc 3 _ rfl⟩
  unfold World.cell? at c1
  split at c1
  · rename_i h3; exact (Array.getElem?_eq_some_iff.1 h3).1
  · cases c1
end Go.Proofs.YtjijijjkkhpjnaaGreatDoor.Fr
end

