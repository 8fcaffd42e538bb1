/- Contracts: Under, Segments, Arg, with their references, and Texts. Conditions: texts of at most 2^27 bytes. -/
import Derived.Test.YtnppicekfjdefaaGreatDoorAddrC
namespace Go.Proofs.YtnppicekfjdefaaGreatDoor
open Go.RowKit Pl Ad
attribute [local go_sem] ba_get conv_one conv_one_drewN ba_append ba_extract
set_option maxRecDepth 100000
set_option maxHeartbeats 4000000
set_option linter.unusedVariables false
namespace A1

/-- Does a path lie under another? -/
def underB (p q : Bs) : Bool := q.isPrefixOf p && (decide (p.length = q.length) || decide (q.getLast? = some 47) || decide ((p.drop q.length).head? = some 47))
def under (a b : Adr) : Bool := decide (a.host = b.host) && underB a.path b.path

theorem suffix_one (q : Bs) (c : UInt8) : Lib.hasSuffix q [c] = decide (q.getLast? = some c) := by
  unfold Lib.hasSuffix
  rw [Bool.eq_iff_iff, decide_eq_true_eq, List.isSuffixOf_iff_suffix]
  constructor
  · rintro ⟨t, rfl⟩; simp
  · intro h
    obtain ⟨ys, rfl⟩ := List.getLast?_eq_some_iff.1 h
    exact ⟨ys, rfl⟩
theorem underB_self (q : Bs) : underB q q = true := by
  have : q.isPrefixOf q = true := by rw [List.isPrefixOf_iff_prefix]; exact List.prefix_refl q
  simp [underB, this]
theorem underB_more (q t : Bs) (x : UInt8) : underB (q ++ x :: t) q = (Lib.hasSuffix q [47] || decide (x = 47)) := by
  have h1 : q.isPrefixOf (q ++ x :: t) = true := by rw [List.isPrefixOf_iff_prefix]; exact List.prefix_append q _
  unfold underB
  rw [h1, suffix_one]
  simp
theorem underB_no (p q : Bs) (h : q.isPrefixOf p = false) : underB p q = false := by simp [underB, h]

theorem under_any (h p q h2 p2 q2 : Bs) (b b2 : Bool) (w : World) (hp : p.length ≤ 9223372036854775807) (hp2 : p2.length ≤ 9223372036854775807) :
    Calls Tryz.prog 57 #[.agg #[.string ⟨h.toArray⟩, .string ⟨p.toArray⟩, .string ⟨q.toArray⟩, .bool b], .agg #[.string ⟨h2.toArray⟩, .string ⟨p2.toArray⟩, .string ⟨q2.toArray⟩, .bool b2]] w fun e w' => e = .returned (.bool (decide (h = h2) && underB p p2)) ∧ Below w.heap.size w w' := by
  by_cases hh : h = h2
  · subst hh
    by_cases hpre : p2.isPrefixOf p = true
    · obtain ⟨t, rfl⟩ := List.isPrefixOf_iff_prefix.1 hpre
      have HPP := Lib.hid (show Lib.hasPrefix (p2 ++ t) p2 = true from hpre)
      clear hpre
      match t, HPP, hp with
      | [], HPP, hp =>
        have HU := Lib.hid (underB_self p2)
        rw [List.append_nil] at HPP hp ⊢
        go_enter Tryz.func57, Tryz.ntmps57
        go_wp2_with (first | (go_at_call 70; refine (hasPrefix_any _ _ _).mono ?_; rintro e w1 ⟨rfl, rfl⟩; rw [HPP.out]) | (go_at_call 71; refine (hasSuffix_any _ _ _ (by omega)).mono ?_; rintro e w1 ⟨rfl, rfl⟩))
        all_goals
          go_ret
          exact ⟨ret_bool (by rw [HU.out]; simp), ((Below.refl _ _).alloc (Nat.le_refl _) _).alloc (by simp) _⟩
      | x :: t, HPP, hp =>
        have HU := Lib.hid (underB_more p2 t x)
        have hl : p2.length + t.length + 1 ≤ 9223372036854775807 := by simp at hp; omega
        go_enter Tryz.func57, Tryz.ntmps57
        go_wp2_with (first | (go_at_call 70; refine (hasPrefix_any _ _ _).mono ?_; rintro e w1 ⟨rfl, rfl⟩; rw [HPP.out]) | (go_at_call 71; refine (hasSuffix_any _ _ _ (by omega)).mono ?_; rintro e w1 ⟨rfl, rfl⟩))
        all_goals
          go_ret
          exact ⟨ret_bool (by rw [HU.out, Bool.eq_iff_iff]; simp [*, ← UInt8.toNat_inj] <;> omega), ((Below.refl _ _).alloc (Nat.le_refl _) _).alloc (by simp) _⟩
    · have HU := Lib.hid (underB_no p p2 (Bool.eq_false_iff.2 hpre))
      have HPP := Lib.hid (show Lib.hasPrefix p p2 = false from Bool.eq_false_iff.2 hpre)
      clear hpre
      go_enter Tryz.func57, Tryz.ntmps57
      go_wp2_with ((go_at_call 70; refine (hasPrefix_any _ _ _).mono ?_; rintro e w1 ⟨rfl, rfl⟩; rw [HPP.out]))
      go_ret
      exact ⟨ret_bool (by rw [HU.out]; simp), ((Below.refl _ _).alloc (Nat.le_refl _) _).alloc (by simp) _⟩
  · have hb : (h == h2) = false := by simpa using hh
    have HD := Lib.hid (show decide (h = h2) = false from decide_eq_false hh)
    clear hh
    go_enter Tryz.func57, Tryz.ntmps57
    go_wp2_with (first | (go_at_call 71; refine (hasSuffix_any _ _ _ (by omega)).mono ?_; rintro e w1 ⟨rfl, rfl⟩))
    go_ret
    exact ⟨ret_bool (by rw [HD.out]; simp), ((Below.refl _ _).alloc (Nat.le_refl _) _).alloc (by simp) _⟩

theorem take_prefix {p q : Bs} (h : p.take q.length = q) : q.isPrefixOf p = true := by
  rw [List.isPrefixOf_iff_prefix]
  exact ⟨p.drop q.length, (congrArg (· ++ p.drop q.length) h.symm).trans (List.take_append_drop _ _)⟩
end A1
end Go.Proofs.YtnppicekfjdefaaGreatDoor
