/- Contracts: Valid and Format, and the reference's Valid. Conditions: texts of at most 2^27 bytes. -/
import Derived.Test.YthbjpekgiiflkaaDoorAddrV
import Derived.Test.YthbjpekgiiflkaaDoorAddrC
namespace Go.Proofs.YthbjpekgiiflkaaDoor
open Go.RowKit Pl Ad
attribute [local go_sem] ba_get conv_one conv_one_drewN ba_append ba_extract
set_option maxRecDepth 100000
set_option maxHeartbeats 4000000
set_option linter.unusedVariables false
namespace A1
theorem parseV_ok (a : Adr) : parseV (.ok a) = adV a := rfl
theorem parseV_err (n : Int) : parseV (.error n) = ad0 := rfl
theorem codeOf_ok (a : Adr) : codeOf (.ok a) = 0 := rfl
theorem codeOf_err (n : Int) : codeOf (.error n) = n := rfl
attribute [local go_sem] parseV_ok parseV_err codeOf_ok codeOf_err

theorem adr_ne {h p q h2 p2 q2 : Bs} {b b2 : Bool} (hne : ¬ (Adr.mk h p q b = Adr.mk h2 p2 q2 b2)) : ¬ (h = h2 ∧ p = p2 ∧ q = q2 ∧ b = b2) := by
  rintro ⟨rfl, rfl, rfl, rfl⟩; exact hne rfl

theorem valid_any (a : Adr) (w : World) (hr : Ready w) (h1 : a.host.length ≤ 134217728) (h2 : a.path.length ≤ 134217728) (h3 : a.query.length ≤ 134217728) :
    Calls Tryd.prog 21 #[adV a] w fun e w' => e = .returned (.bool (valid a)) ∧ Below w.heap.size w w' := by
  obtain ⟨h, p, q, b⟩ := a
  simp only at h1 h2 h3
  have HBX := Lib.hid (box_new w 38 (.string ⟨h.toArray⟩) (.string ⟨p.toArray⟩) (.string ⟨q.toArray⟩) (.bool b))
  have hbz := (Below.refl w.heap.size w).alloc (Nat.le_refl _) (.cells #[.string ⟨h.toArray⟩, .string ⟨p.toArray⟩, .string ⟨q.toArray⟩, .bool b] 38)
  have HRD := Lib.hid (hr.below hbz)
  have HBZ := Lib.hid hbz
  clear hr hbz
  cases b
  · by_cases hq : q = []
    · subst hq
      cases hp : parse h (p) with
      | error n =>
        have HV := Lib.hid (valid_err ⟨h, p, [], false⟩ n (by simpa [Adr.target] using hp))
        have HP := Lib.hid hp
        clear hp
        go_enter Tryd.func21, Tryd.ntmps21
        go_wp2_with fail
        refine (parse_err _ (by omega) (by first | omega | (simp; omega)) HRD.out HP.out).mono ?_
        rintro e w1 ⟨rfl, hb1⟩
        go_wp2_with fail
        go_ret
        exact ⟨ret_bool HV.out.symm, (HBZ.out.trans (hb1.mono (by simp))).alloc (by have := hb1.size; simp at this; omega) _⟩
      | ok c =>
        have HV := Lib.hid (valid_eq ⟨h, p, [], false⟩ c (.inr rfl) (by simpa [Adr.target] using hp))
        have HP := Lib.hid hp
        clear hp
        obtain ⟨h', p', q', b'⟩ := c
        go_enter Tryd.func21, Tryd.ntmps21
        go_wp2_with fail
        refine (parse_ok _ (by omega) (by first | omega | (simp; omega)) HRD.out HP.out).mono ?_
        rintro e w1 ⟨rfl, hb1⟩
        obtain ⟨⟨c0, c1, c2, c3⟩, _, hsz⟩ := (HBX.out.below hb1 (by simp)).facts
        go_wp2_with fail
        all_goals
          go_ret
          exact ⟨ret_bool (by rw [HV.out]; simp [*]), (HBZ.out.trans (hb1.mono (by simp))).alloc (by have := hb1.size; simp at this; omega) _⟩
    · have HV := Lib.hid (valid_noq ⟨h, p, q, false⟩ rfl hq)
      have hq2 : q.isEmpty = false := by simpa using hq
      have hq3 : (q == []) = false := by simpa using hq
      clear hq
      go_enter Tryd.func21, Tryd.ntmps21
      go_wp2_with fail
      go_ret
      exact ⟨ret_bool HV.out.symm, HBZ.out⟩
  · skip
    cases hp : parse h (p ++ 63 :: q) with
    | error n =>
      have HV := Lib.hid (valid_err ⟨h, p, q, true⟩ n (by simpa [Adr.target] using hp))
      have HP := Lib.hid hp
      clear hp
      go_enter Tryd.func21, Tryd.ntmps21
      go_wp2_with fail
      refine (parse_err _ (by omega) (by first | omega | (simp; omega)) HRD.out HP.out).mono ?_
      rintro e w1 ⟨rfl, hb1⟩
      go_wp2_with fail
      go_ret
      exact ⟨ret_bool HV.out.symm, (HBZ.out.trans (hb1.mono (by simp))).alloc (by have := hb1.size; simp at this; omega) _⟩
    | ok c =>
      have HV := Lib.hid (valid_eq ⟨h, p, q, true⟩ c (.inl rfl) (by simpa [Adr.target] using hp))
      have HP := Lib.hid hp
      clear hp
      obtain ⟨h', p', q', b'⟩ := c
      go_enter Tryd.func21, Tryd.ntmps21
      go_wp2_with fail
      refine (parse_ok _ (by omega) (by first | omega | (simp; omega)) HRD.out HP.out).mono ?_
      rintro e w1 ⟨rfl, hb1⟩
      obtain ⟨⟨c0, c1, c2, c3⟩, _, hsz⟩ := (HBX.out.below hb1 (by simp)).facts
      go_wp2_with fail
      all_goals
        go_ret
        exact ⟨ret_bool (by rw [HV.out]; simp [*]), (HBZ.out.trans (hb1.mono (by simp))).alloc (by have := hb1.size; simp at this; omega) _⟩

theorem parse_code {h t : Bs} {n : Int} (hp : parse h t = .error n) : ¬ n = 0 := by
  rcases parse_ways h t with ⟨_, e⟩ | ⟨_, _, e⟩ | ⟨_, _, _, _, _, _, e⟩ | ⟨_, _, _, _, u, _, _, _, _, e⟩
  · rw [e] at hp; cases hp; decide
  · rw [e] at hp; cases hp; decide
  · rw [e] at hp; cases hp; decide
  · rw [e] at hp
    cases hd : dotsL (splitOn 47 u) [] with
    | none => rw [hd] at hp; cases hp; decide
    | some left =>
      rw [hd] at hp
      simp only at hp
      split at hp <;> cases hp
      decide

theorem refValid_any (a : Adr) (w : World) (h1 : a.host.length ≤ 134217728) (h2 : a.path.length ≤ 134217728) (h3 : a.query.length ≤ 134217728) :
    Calls Tryd.prog 22 #[adV a] w fun e w' => e = .returned (.bool (valid a)) ∧ Below w.heap.size w w' := by
  obtain ⟨h, p, q, b⟩ := a
  simp only at h1 h2 h3
  have HN : Hid (∀ (t : Bs) (n : Int), parse h t = .error n → ¬ n = 0) := fun t n hp => parse_code hp
  have HBX := Lib.hid (box_new w 43 (.string ⟨h.toArray⟩) (.string ⟨p.toArray⟩) (.string ⟨q.toArray⟩) (.bool b))
  have HBZ := Lib.hid ((Below.refl w.heap.size w).alloc (Nat.le_refl _) (.cells #[.string ⟨h.toArray⟩, .string ⟨p.toArray⟩, .string ⟨q.toArray⟩, .bool b] 43))
  cases b
  · by_cases hq : q = []
    · subst hq
      cases hp : parse h (p) with
      | error n =>
        have HV := Lib.hid (valid_err ⟨h, p, [], false⟩ n (by simpa [Adr.target] using hp))
        have HP := Lib.hid hp
        clear hp
        go_enter Tryd.func22, Tryd.ntmps22
        go_wp2_with fail
        refine (refParse_any h (p) _ (by omega) (by first | omega | (simp; omega))).mono ?_
        rintro e w1 ⟨rfl, hb1⟩
        obtain ⟨⟨c0, c1, c2, c3⟩, _, hsz⟩ := (HBX.out.below hb1 (by simp)).facts
        rw [HP.out]
        rw [codeOf_err, parseV_err]
        have hn := HN.out _ n HP.out
        have hn1 : (n == 0) = false := beq_eq_false_iff_ne.2 hn
        clear hn
        go_wp2_with fail
        go_ret
        exact ⟨ret_bool (by rw [HV.out]), (HBZ.out.trans (hb1.mono (by simp))).alloc (by have := hb1.size; simp at this; omega) _⟩
      | ok c =>
        have HV := Lib.hid (valid_eq ⟨h, p, [], false⟩ c (.inr rfl) (by simpa [Adr.target] using hp))
        have HP := Lib.hid hp
        clear hp
        obtain ⟨h', p', q', b'⟩ := c
        go_enter Tryd.func22, Tryd.ntmps22
        go_wp2_with fail
        refine (refParse_any h (p) _ (by omega) (by first | omega | (simp; omega))).mono ?_
        rintro e w1 ⟨rfl, hb1⟩
        obtain ⟨⟨c0, c1, c2, c3⟩, _, hsz⟩ := (HBX.out.below hb1 (by simp)).facts
        rw [HP.out]
        rw [codeOf_ok, parseV_ok]
        go_wp2_with fail
        all_goals
          go_ret
          exact ⟨ret_bool (by rw [HV.out]; simp [*]), (HBZ.out.trans (hb1.mono (by simp))).alloc (by have := hb1.size; simp at this; omega) _⟩
    · have HV := Lib.hid (valid_noq ⟨h, p, q, false⟩ rfl hq)
      have hq2 : q.isEmpty = false := by simpa using hq
      have hq3 : (q == []) = false := by simpa using hq
      clear hq
      go_enter Tryd.func22, Tryd.ntmps22
      go_wp2_with fail
      go_ret
      exact ⟨ret_bool HV.out.symm, HBZ.out⟩
  · skip
    cases hp : parse h (p ++ 63 :: q) with
    | error n =>
      have HV := Lib.hid (valid_err ⟨h, p, q, true⟩ n (by simpa [Adr.target] using hp))
      have HP := Lib.hid hp
      clear hp
      go_enter Tryd.func22, Tryd.ntmps22
      go_wp2_with fail
      refine (refParse_any h (p ++ 63 :: q) _ (by omega) (by first | omega | (simp; omega))).mono ?_
      rintro e w1 ⟨rfl, hb1⟩
      obtain ⟨⟨c0, c1, c2, c3⟩, _, hsz⟩ := (HBX.out.below hb1 (by simp)).facts
      rw [HP.out]
      rw [codeOf_err, parseV_err]
      have hn := HN.out _ n HP.out
      have hn1 : (n == 0) = false := beq_eq_false_iff_ne.2 hn
      clear hn
      go_wp2_with fail
      go_ret
      exact ⟨ret_bool (by rw [HV.out]), (HBZ.out.trans (hb1.mono (by simp))).alloc (by have := hb1.size; simp at this; omega) _⟩
    | ok c =>
      have HV := Lib.hid (valid_eq ⟨h, p, q, true⟩ c (.inl rfl) (by simpa [Adr.target] using hp))
      have HP := Lib.hid hp
      clear hp
      obtain ⟨h', p', q', b'⟩ := c
      go_enter Tryd.func22, Tryd.ntmps22
      go_wp2_with fail
      refine (refParse_any h (p ++ 63 :: q) _ (by omega) (by first | omega | (simp; omega))).mono ?_
      rintro e w1 ⟨rfl, hb1⟩
      obtain ⟨⟨c0, c1, c2, c3⟩, _, hsz⟩ := (HBX.out.below hb1 (by simp)).facts
      rw [HP.out]
      rw [codeOf_ok, parseV_ok]
      go_wp2_with fail
      all_goals
        go_ret
        exact ⟨ret_bool (by rw [HV.out]; simp [*]), (HBZ.out.trans (hb1.mono (by simp))).alloc (by have := hb1.size; simp at this; omega) _⟩

theorem format_yes (a : Adr) (w : World) (hr : Ready w) (h1 : a.host.length ≤ 134217728) (h2 : a.path.length ≤ 134217728) (h3 : a.query.length ≤ 134217728) (hv : valid a = true) :
    Calls Tryd.prog 23 #[adV a] w fun e w' => e = .returned (.tuple #[.string ⟨a.text.toArray⟩, .nilIface]) ∧ Below w.heap.size w w' := by
  have HV := Lib.hid hv
  have HX := Lib.hid (valid_any a)
  obtain ⟨h, p, q, b⟩ := a
  simp only at h1 h2 h3
  have HBX := Lib.hid (box_new w 38 (.string ⟨h.toArray⟩) (.string ⟨p.toArray⟩) (.string ⟨q.toArray⟩) (.bool b))
  have hbz := (Below.refl w.heap.size w).alloc (Nat.le_refl _) (.cells #[.string ⟨h.toArray⟩, .string ⟨p.toArray⟩, .string ⟨q.toArray⟩, .bool b] 38)
  have HRD := Lib.hid (hr.below hbz)
  have HBZ := Lib.hid hbz
  clear hr hbz hv
  go_enter Tryd.func23, Tryd.ntmps23
  go_wp2_with fail
  refine (HX.out _ HRD.out (by simpa using h1) (by simpa using h2) (by simpa using h3)).mono ?_
  rintro e w1 ⟨rfl, hb1⟩
  rw [HV.out]
  obtain ⟨⟨c0, c1, c2, c3⟩, _, hsz⟩ := (HBX.out.below hb1 (by simp)).facts
  go_wp2_with fail
  refine (text_any h p q b _ (by omega) (by omega) (by omega)).mono ?_
  rintro e w2 ⟨rfl, hb2⟩
  go_wp2_with fail
  go_ret2
  exact ⟨rfl, HBZ.out.trans ((hb1.trans (hb2.mono hb1.size)).mono (by simp))⟩
theorem format_no (a : Adr) (w : World) (hr : Ready w) (h1 : a.host.length ≤ 134217728) (h2 : a.path.length ≤ 134217728) (h3 : a.query.length ≤ 134217728) (hv : valid a = false) :
    Calls Tryd.prog 23 #[adV a] w fun e w' => e = .returned (.tuple #[.string ⟨#[]⟩, errV 2]) ∧ Below w.heap.size w w' := by
  have HV := Lib.hid hv
  have HX := Lib.hid (valid_any a)
  obtain ⟨h, p, q, b⟩ := a
  simp only at h1 h2 h3
  have hbz := (Below.refl w.heap.size w).alloc (Nat.le_refl _) (.cells #[.string ⟨h.toArray⟩, .string ⟨p.toArray⟩, .string ⟨q.toArray⟩, .bool b] 38)
  have HRD := Lib.hid (hr.below hbz)
  have HBZ := Lib.hid hbz
  clear hr hbz hv
  go_enter Tryd.func23, Tryd.ntmps23
  go_wp2_with fail
  refine (HX.out _ HRD.out (by simpa using h1) (by simpa using h2) (by simpa using h3)).mono ?_
  rintro e w1 ⟨rfl, hb1⟩
  rw [HV.out]
  go_wp2_with fail
  go_ret2
  exact ⟨rfl, HBZ.out.trans (hb1.mono (by simp))⟩
end A1
end Go.Proofs.YthbjpekgiiflkaaDoor
