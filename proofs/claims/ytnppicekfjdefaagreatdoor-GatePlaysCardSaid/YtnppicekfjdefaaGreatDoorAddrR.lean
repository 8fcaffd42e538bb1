/- Contract: the reference's Under. Conditions: texts of at most 2^27 bytes. -/
import Derived.Test.YtnppicekfjdefaaGreatDoorAddrF
namespace Go.Proofs.YtnppicekfjdefaaGreatDoor
open Go.RowKit Pl Ad
attribute [local go_sem] ba_get conv_one conv_one_drewN ba_append ba_extract
set_option maxRecDepth 100000
set_option maxHeartbeats 4000000
set_option linter.unusedVariables false
namespace A1
theorem underB_short {p q : Bs} (h : p.length < q.length) : underB p q = false :=
  underB_no p q (by
    rw [Bool.eq_false_iff]; intro hp
    obtain ⟨t, rfl⟩ := List.isPrefixOf_iff_prefix.1 hp
    simp at h; omega)
theorem underB_other {p q : Bs} (h : ¬ p.take q.length = q) : underB p q = false :=
  underB_no p q (by
    rw [Bool.eq_false_iff]; intro hp
    obtain ⟨t, rfl⟩ := List.isPrefixOf_iff_prefix.1 hp
    simp at h)
theorem underB_last {p q : Bs} (h : p.take q.length = q) (h0 : q.length - 1 < q.length) (h1 : q[q.length - 1] = 47) : underB p q = true := by
  unfold underB
  rw [take_prefix h, List.getLast?_eq_getElem?, List.getElem?_eq_getElem h0, h1]; simp
theorem underB_same {p q : Bs} (h : p.take q.length = q) (h1 : p.length = q.length) : underB p q = true := by
  unfold underB
  rw [take_prefix h, h1]; simp
theorem underB_next {p q : Bs} (h : p.take q.length = q) (h0 : q.length < p.length) (h2 : q = [] ∨ ∃ h1 : q.length - 1 < q.length, ¬ q[q.length - 1] = 47) : underB p q = decide (p[q.length] = 47) := by
  unfold underB
  have h3 : ¬ p.length = q.length := by omega
  have h4 : ¬ q.getLast? = some 47 := by
    rcases h2 with rfl | ⟨h1, h2⟩
    · simp
    · rw [List.getLast?_eq_getElem?, List.getElem?_eq_getElem h1]; simpa using h2
  have h5 : (p.drop q.length).head? = some p[q.length] := by rw [drop_cons h0]; rfl
  rw [take_prefix h, decide_eq_false h3, decide_eq_false h4, h5]
  simp

theorem refUnder_any (h p q h2 p2 q2 : Bs) (b b2 : Bool) (w : World) (hp : p.length ≤ 9223372036854775807) (hp2 : p2.length ≤ 9223372036854775807) :
    Calls Tryz.prog 61 #[.agg #[.string ⟨h.toArray⟩, .string ⟨p.toArray⟩, .string ⟨q.toArray⟩, .bool b], .agg #[.string ⟨h2.toArray⟩, .string ⟨p2.toArray⟩, .string ⟨q2.toArray⟩, .bool b2]] w fun e w' => e = .returned (.bool (decide (h = h2) && underB p p2)) ∧ Below w.heap.size w w' := by
  have HB := Lib.hid (((Below.refl w.heap.size w).alloc (Nat.le_refl _) (.cells #[.string ⟨h.toArray⟩, .string ⟨p.toArray⟩, .string ⟨q.toArray⟩, .bool b] 103)).alloc (by simp) (.cells #[.string ⟨h2.toArray⟩, .string ⟨p2.toArray⟩, .string ⟨q2.toArray⟩, .bool b2] 103))
  by_cases hh : h = h2
  · subst hh
    by_cases h1 : p.length < p2.length
    · have HU := Lib.hid (underB_short h1)
      have hd : decide ((p.length : Int) < (p2.length : Int)) = true := decide_eq_true (by omega)
      go_enter Tryz.func61, Tryz.ntmps61
      go_wp2
      go_quiet (fail)
      go_wp2
      go_ret
      exact ⟨ret_bool (by rw [HU.out]; simp), below_drewN HB.out _⟩
    · have hd : decide ((p.length : Int) < (p2.length : Int)) = false := decide_eq_false (by omega)
      have hd0 : (0 : Int) ≤ (p2.length : Int) := by omega
      have hd1 : (p2.length : Int) ≤ (p.length : Int) := by omega
      by_cases ht : p.take p2.length = p2
      · have HT := Lib.hid ht
        have ht1 : (p.take p2.length == p2) = true := beq_iff_eq.2 ht
        by_cases h3 : 0 < p2.length
        · have h4 : p2.length - 1 < p2.length := by omega
          have z1 : ((p2.length : Int) - 1).toNat = p2.length - 1 := by omega
          have s1 : IntKind.i64.wrap ((p2.length : Int) - 1) = (p2.length : Int) - 1 := IntWalk.i64_in _ (by omega)
          have b1 : (0 : Int) ≤ (p2.length : Int) - 1 := by omega
          have b2 : (p2.length : Int) - 1 < (p2.length : Int) := by omega
          have b3 : decide ((0 : Int) < (p2.length : Int)) = true := decide_eq_true (by omega)
          by_cases h5 : p2[p2.length - 1] = 47
          · have HU := Lib.hid (underB_last ht h4 h5)
            have hx : ((p2[p2.length - 1].toNat : Int) == 47) = true := by rw [h5]; rfl
            clear ht h5
            go_enter Tryz.func61, Tryz.ntmps61
            go_wp2
            go_quiet (fail)
            go_wp2
            go_ret
            exact ⟨ret_bool (by rw [HU.out]; simp), below_drewN HB.out _⟩
          · have hx : ((p2[p2.length - 1].toNat : Int) == 47) = false := beq_eq_false_iff_ne.2 (fun h => h5 (UInt8.toNat_inj.1 (show p2[p2.length - 1].toNat = 47 by omega)))
            by_cases h6 : p.length = p2.length
            · have HU := Lib.hid (underB_same ht h6)
              have hy : ((p.length : Int) == (p2.length : Int)) = true := beq_iff_eq.2 (by omega)
              clear ht h5 h6
              go_enter Tryz.func61, Tryz.ntmps61
              go_wp2
              go_quiet (fail)
              go_wp2
              go_ret
              exact ⟨ret_bool (by rw [HU.out]; simp), below_drewN HB.out _⟩
            · have h7 : p2.length < p.length := by omega
              have HU := Lib.hid (underB_next ht h7 (.inr ⟨h4, h5⟩))
              have hy : ((p.length : Int) == (p2.length : Int)) = false := beq_eq_false_iff_ne.2 (by omega)
              have b4 : (p2.length : Int) < (p.length : Int) := by omega
              clear ht h5
              go_enter Tryz.func61, Tryz.ntmps61
              go_wp2
              go_quiet (fail)
              go_wp2
              go_ret
              exact ⟨ret_bool (by rw [HU.out, Bool.eq_iff_iff]; simp [← UInt8.toNat_inj] <;> omega), below_drewN HB.out _⟩
        · have hp0 : p2 = [] := List.eq_nil_of_length_eq_zero (by omega)
          subst hp0
          by_cases h6 : p = []
          · subst h6
            have HU := Lib.hid (underB_self [])
            clear ht ht1 h3 hd hd0 hd1
            go_enter Tryz.func61, Tryz.ntmps61
            go_wp2
            go_quiet (fail)
            go_wp2
            go_ret
            exact ⟨ret_bool (by rw [HU.out]; simp), below_drewN HB.out _⟩
          · have h7 : ([] : Bs).length < p.length := by simpa using List.length_pos_iff.2 h6
            have HU := Lib.hid (underB_next ht h7 (.inl rfl))
            have h8 : 0 < p.length := h7
            have hy : ((p.length : Int) == 0) = false := beq_eq_false_iff_ne.2 (by omega)
            have hy2 : ¬ p.length = 0 := by omega
            clear ht ht1 h3 hd hd0 hd1 h6
            go_enter Tryz.func61, Tryz.ntmps61
            go_wp2
            go_quiet (fail)
            go_wp2
            all_goals
              go_ret
              exact ⟨ret_bool (by rw [HU.out, Bool.eq_iff_iff]; simp [← UInt8.toNat_inj] <;> omega), below_drewN HB.out _⟩
      · have HU := Lib.hid (underB_other ht)
        have ht1 : (p.take p2.length == p2) = false := by simpa using ht
        clear ht
        go_enter Tryz.func61, Tryz.ntmps61
        go_wp2
        go_quiet (fail)
        go_wp2
        go_ret
        exact ⟨ret_bool (by rw [HU.out]; simp), below_drewN HB.out _⟩
  · have hb : (h == h2) = false := by simpa using hh
    have HD := Lib.hid (show decide (h = h2) = false from decide_eq_false hh)
    clear hh
    go_enter Tryz.func61, Tryz.ntmps61
    go_wp2
    go_quiet (fail)
    go_wp2
    go_ret
    exact ⟨ret_bool (by rw [HD.out]; simp), below_drewN HB.out _⟩
end A1
end Go.Proofs.YtnppicekfjdefaaGreatDoor
