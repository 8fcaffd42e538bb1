/- Contracts: Read and the reference's Read. Conditions: texts of at most 2^27 bytes. -/
import Derived.Test.YtnppicekfjdefaaGreatDoorAddrC
import Derived.Test.YtnppicekfjdefaaGreatDoorAddrP
import Derived.Deep.RegionWith
namespace Go.Proofs.YtnppicekfjdefaaGreatDoor
open Go.RowKit Pl Ad
attribute [local go_sem] ba_get conv_one conv_one_drewN ba_append ba_extract_zero ba_extract_end
set_option maxRecDepth 100000
set_option maxHeartbeats 4000000
set_option linter.unusedVariables false
namespace A1

theorem Box.drewBelow {w w' : World} {R T B : Nat} {v0 v1 v2 v3 : Value} (h : Box w R T v0 v1 v2 v3) (hb : Below B w.drew w') (hR : R < B) : Box w' R T v0 v1 v2 v3 := (hb.block R hR).trans h
theorem Box.drew {w : World} {R T : Nat} {v0 v1 v2 v3 : Value} (h : Box w R T v0 v1 v2 v3) : Box w.drew R T v0 v1 v2 v3 := h
theorem Box.stored {w : World} {R T : Nat} {v0 v1 v2 v3 : Value} (h : Box w R T v0 v1 v2 v3) (a b c d : Value) : Box ((((w.setCell ⟨R, 0, none⟩ a).setCell ⟨R, 1, none⟩ b).setCell ⟨R, 2, none⟩ c).setCell ⟨R, 3, none⟩ d) R T a b c d := by
  unfold Box at h ⊢
  simp [World.setCell, Array.getElem?_modify, h]
theorem Box.other {w : World} {R A T : Nat} {v0 v1 v2 v3 : Value} (h : Box w R T v0 v1 v2 v3) (hne : R < A) (a b c d : Value) : Box ((((w.setCell ⟨A, 0, none⟩ a).setCell ⟨A, 1, none⟩ b).setCell ⟨A, 2, none⟩ c).setCell ⟨A, 3, none⟩ d) R T v0 v1 v2 v3 :=
  h.below (Box.set (B := A) (Below.refl A w) (Nat.le_refl _) a b c d) hne

theorem indexByte_47 (l : Bs) (w : World) :
    Calls Tryz.prog 54 #[.string ⟨l.toArray⟩, .int .u8 47] w fun e w' => e = .returned (.int .i64 (Lib.indexByte l 47)) ∧ w = w' := indexByte_any l 47 w

theorem read_miss (t : Bs) (w : World) (hi : Lib.indexByte t 47 = -1) :
    Calls Tryz.prog 46 #[.string ⟨t.toArray⟩] w fun e w' => e = .returned (.tuple #[ad0, errV 2]) ∧ Below w.heap.size w w' := by
  have HI := Lib.hid hi
  clear hi
  have hb := (Below.refl w.heap.size w).alloc (Nat.le_refl _) (.cells #[.string ⟨#[]⟩, .string ⟨#[]⟩, .string ⟨#[]⟩, .bool false] 98)
  go_enter Tryz.func46, Tryz.ntmps46
  go_wp2_with fail
  refine (indexByte_47 t _).mono ?_
  rintro e w1 ⟨rfl, rfl⟩
  rw [HI.out]
  go_wp2_with fail
  exact bodyPost_ret (v := .tuple #[ad0, errV 2]) (by simp [results, Tryz.results46, go_sem]) rfl ⟨rfl, hb⟩

theorem take_len {t p : Bs} {k : Nat} (h : t.take k = p) (ht : t.length ≤ 134217728) : p.length ≤ 134217728 := by
  subst h; rw [List.length_take]; omega
theorem drop_len {t q : Bs} {k : Nat} (h : t.drop k = q) (ht : t.length ≤ 134217728) : q.length ≤ 134217728 := by
  subst h; rw [List.length_drop]; omega

theorem read_err (t p q : Bs) (k : Nat) (w : World) (hr : Ready w) (ht : t.length ≤ 134217728) (hk : k ≤ t.length) (hi : Lib.indexByte t 47 = (k : Int)) (h1 : t.take k = p) (h2 : t.drop k = q) (n : Int) (hp : parse p q = .error n) :
    Calls Tryz.prog 46 #[.string ⟨t.toArray⟩] w fun e w' => e = .returned (.tuple #[ad0, errV 2]) ∧ Below w.heap.size w w' := by
  have HI := Lib.hid hi
  have HP := Lib.hid hp
  have hlp := take_len h1 ht
  have hlq := drop_len h2 ht
  clear hi hp
  have hb := (Below.refl w.heap.size w).alloc (Nat.le_refl _) (.cells #[.string ⟨#[]⟩, .string ⟨#[]⟩, .string ⟨#[]⟩, .bool false] 98)
  have hbx := box_new w 98 (.string ⟨#[]⟩) (.string ⟨#[]⟩) (.string ⟨#[]⟩) (.bool false)
  have HB := Lib.hid hb
  have HBX := Lib.hid hbx
  have hba := hb.drew.alloc (by simp) (.cells #[.string ⟨#[]⟩, .string ⟨#[]⟩, .string ⟨#[]⟩, .bool false] 98)
  have HBA := Lib.hid hba
  have HQ1 := Lib.hid (hbx.drew.below ((Below.refl (w.heap.size + 1) _).alloc (by simp) (.cells #[.string ⟨#[]⟩, .string ⟨#[]⟩, .string ⟨#[]⟩, .bool false] 98)) (Nat.lt_succ_self _))
  have HXA : Hid (Box ((w.alloc (.cells #[.string ⟨#[]⟩, .string ⟨#[]⟩, .string ⟨#[]⟩, .bool false] 98)).drew.alloc (.cells #[.string ⟨#[]⟩, .string ⟨#[]⟩, .string ⟨#[]⟩, .bool false] 98)) (w.heap.size + 1) 98 (.string ⟨#[]⟩) (.string ⟨#[]⟩) (.string ⟨#[]⟩) (.bool false)) := by have h9 := box_new (w.alloc (.cells #[.string ⟨#[]⟩, .string ⟨#[]⟩, .string ⟨#[]⟩, .bool false] 98)).drew 98 (.string ⟨#[]⟩) (.string ⟨#[]⟩) (.string ⟨#[]⟩) (.bool false); rw [show (w.alloc (.cells #[.string ⟨#[]⟩, .string ⟨#[]⟩, .string ⟨#[]⟩, .bool false] 98)).drew.heap.size = w.heap.size + 1 by simp] at h9; exact h9
  have HRD := Lib.hid (hr.below hb.drew)
  have HRA := Lib.hid (hr.below hba)
  clear hr hb hba hbx
  go_enter Tryz.func46, Tryz.ntmps46
  go_wp2_with fail
  refine (indexByte_47 t _).mono ?_
  rintro e w1 ⟨rfl, rfl⟩
  rw [HI.out]
  go_wp2_with fail
  go_region_with (go_at_call 55; first
    | (refine (parse_err _ (by omega) (by omega) HRD.out HP.out).mono ?_
       rintro e w2 ⟨rfl, hb2⟩
       have hT2 := HBX.out.drewBelow hb2 (by simp <;> omega)
       have hz2 := hT2.facts.2.2
       have hT5 := hT2.below ((Below.refl w2.heap.size w2).alloc (Nat.le_refl _) (.cells #[.string ⟨#[]⟩, .string ⟨#[]⟩, .string ⟨#[]⟩, .bool false] 98)) hz2
       have hX5 := box_new w2 98 (.string ⟨#[]⟩) (.string ⟨#[]⟩) (.string ⟨#[]⟩) (.bool false)
       have hbw := HB.out.drew.trans (hb2.mono (by simp <;> omega))
       obtain ⟨⟨a0, a1, a2, a3⟩, ⟨_, _, _, _⟩, _⟩ := hT2.facts
       have hB5 := Lib.hid ((HB.out.drew.trans (hb2.mono (by simp <;> omega))).alloc (Nat.le_of_lt hz2) (.cells #[.string ⟨#[]⟩, .string ⟨#[]⟩, .string ⟨#[]⟩, .bool false] 98)))
    | (refine (parse_err _ (by omega) (by omega) HRA.out HP.out).mono ?_
       rintro e w2 ⟨rfl, hb2⟩
       have hT2 := HQ1.out.below hb2 (by simp <;> omega)
       have hX2 := HXA.out.below hb2 (by simp <;> omega)
       have hz2 := hT2.facts.2.2
       have hT5 := hT2.other (Nat.lt_succ_self _) (.string ⟨#[]⟩) (.string ⟨#[]⟩) (.string ⟨#[]⟩) (.bool false)
       have hX5 := hX2.stored (.string ⟨#[]⟩) (.string ⟨#[]⟩) (.string ⟨#[]⟩) (.bool false)
       have hB5 := Lib.hid (Box.set (HBA.out.trans (hb2.mono (by simp <;> omega))) (Nat.le_succ _) (.string ⟨#[]⟩) (.string ⟨#[]⟩) (.string ⟨#[]⟩) (.bool false))
       obtain ⟨⟨a0, a1, a2, a3⟩, _⟩ := hT2.facts
       obtain ⟨⟨_, _, _, _⟩, ⟨_, _, _, _⟩, _⟩ := hX2.facts))
  all_goals
    obtain ⟨⟨c0, c1, c2, c3⟩, ⟨f0, f1, f2, f3⟩, hs5⟩ := hT5.facts
    go_wp2_with fail
    refine bodyPost_ret (v := .tuple #[ad0, errV 2]) (by simp [results, Tryz.results46, go_sem, c0, c1, c2, c3, a0, a1, a2, a3, hz2]) rfl ⟨rfl, ?_⟩
    first | exact Box.set hB5.out (Nat.le_refl _) _ _ _ _ | exact (Box.set hbw (Nat.le_refl _) _ _ _ _).alloc (by simp <;> omega) _

theorem read_oth (t p q : Bs) (k : Nat) (w : World) (hr : Ready w) (ht : t.length ≤ 134217728) (hk : k ≤ t.length) (hi : Lib.indexByte t 47 = (k : Int)) (h1 : t.take k = p) (h2 : t.drop k = q) (ah ap aq : Bs) (ab : Bool) (hp : parse p q = .ok ⟨ah, ap, aq, ab⟩) (hx : ¬ adText ah ap aq ab = t) :
    Calls Tryz.prog 46 #[.string ⟨t.toArray⟩] w fun e w' => e = .returned (.tuple #[ad0, errV 2]) ∧ Below w.heap.size w w' := by
  have HI := Lib.hid hi
  have HP := Lib.hid hp
  have hlp := take_len h1 ht
  have hlq := drop_len h2 ht
  have HL := Lib.hid (parse_lens hp)
  obtain ⟨l1, l2, l3⟩ := HL.out
  simp only at l1 l2 l3
  have hx2 : (adText ah ap aq ab == t) = false := by simpa using hx
  clear hx
  clear hi hp
  have hb := (Below.refl w.heap.size w).alloc (Nat.le_refl _) (.cells #[.string ⟨#[]⟩, .string ⟨#[]⟩, .string ⟨#[]⟩, .bool false] 98)
  have hbx := box_new w 98 (.string ⟨#[]⟩) (.string ⟨#[]⟩) (.string ⟨#[]⟩) (.bool false)
  have HB := Lib.hid hb
  have HBX := Lib.hid hbx
  have hba := hb.drew.alloc (by simp) (.cells #[.string ⟨#[]⟩, .string ⟨#[]⟩, .string ⟨#[]⟩, .bool false] 98)
  have HBA := Lib.hid hba
  have HQ1 := Lib.hid (hbx.drew.below ((Below.refl (w.heap.size + 1) _).alloc (by simp) (.cells #[.string ⟨#[]⟩, .string ⟨#[]⟩, .string ⟨#[]⟩, .bool false] 98)) (Nat.lt_succ_self _))
  have HXA : Hid (Box ((w.alloc (.cells #[.string ⟨#[]⟩, .string ⟨#[]⟩, .string ⟨#[]⟩, .bool false] 98)).drew.alloc (.cells #[.string ⟨#[]⟩, .string ⟨#[]⟩, .string ⟨#[]⟩, .bool false] 98)) (w.heap.size + 1) 98 (.string ⟨#[]⟩) (.string ⟨#[]⟩) (.string ⟨#[]⟩) (.bool false)) := by have h9 := box_new (w.alloc (.cells #[.string ⟨#[]⟩, .string ⟨#[]⟩, .string ⟨#[]⟩, .bool false] 98)).drew 98 (.string ⟨#[]⟩) (.string ⟨#[]⟩) (.string ⟨#[]⟩) (.bool false); rw [show (w.alloc (.cells #[.string ⟨#[]⟩, .string ⟨#[]⟩, .string ⟨#[]⟩, .bool false] 98)).drew.heap.size = w.heap.size + 1 by simp] at h9; exact h9
  have HRD := Lib.hid (hr.below hb.drew)
  have HRA := Lib.hid (hr.below hba)
  clear hr hb hba hbx
  go_enter Tryz.func46, Tryz.ntmps46
  go_wp2_with fail
  refine (indexByte_47 t _).mono ?_
  rintro e w1 ⟨rfl, rfl⟩
  rw [HI.out]
  go_wp2_with fail
  go_region_with (go_at_call 55; first
    | (refine (parse_ok _ (by omega) (by omega) HRD.out HP.out).mono ?_
       rintro e w2 ⟨rfl, hb2⟩
       have hT2 := HBX.out.drewBelow hb2 (by simp <;> omega)
       have hz2 := hT2.facts.2.2
       have hT5 := hT2.below ((Below.refl w2.heap.size w2).alloc (Nat.le_refl _) (.cells #[.string ⟨ah.toArray⟩, .string ⟨ap.toArray⟩, .string ⟨aq.toArray⟩, .bool ab] 98)) hz2
       have hX5 := box_new w2 98 (.string ⟨ah.toArray⟩) (.string ⟨ap.toArray⟩) (.string ⟨aq.toArray⟩) (.bool ab)
       have hbw := HB.out.drew.trans (hb2.mono (by simp <;> omega))
       obtain ⟨⟨a0, a1, a2, a3⟩, ⟨_, _, _, _⟩, _⟩ := hT2.facts
       have hB5 := Lib.hid ((HB.out.drew.trans (hb2.mono (by simp <;> omega))).alloc (Nat.le_of_lt hz2) (.cells #[.string ⟨ah.toArray⟩, .string ⟨ap.toArray⟩, .string ⟨aq.toArray⟩, .bool ab] 98)))
    | (refine (parse_ok _ (by omega) (by omega) HRA.out HP.out).mono ?_
       rintro e w2 ⟨rfl, hb2⟩
       have hT2 := HQ1.out.below hb2 (by simp <;> omega)
       have hX2 := HXA.out.below hb2 (by simp <;> omega)
       have hz2 := hT2.facts.2.2
       have hT5 := hT2.other (Nat.lt_succ_self _) (.string ⟨ah.toArray⟩) (.string ⟨ap.toArray⟩) (.string ⟨aq.toArray⟩) (.bool ab)
       have hX5 := hX2.stored (.string ⟨ah.toArray⟩) (.string ⟨ap.toArray⟩) (.string ⟨aq.toArray⟩) (.bool ab)
       have hB5 := Lib.hid (Box.set (HBA.out.trans (hb2.mono (by simp <;> omega))) (Nat.le_succ _) (.string ⟨ah.toArray⟩) (.string ⟨ap.toArray⟩) (.string ⟨aq.toArray⟩) (.bool ab))
       obtain ⟨⟨a0, a1, a2, a3⟩, _⟩ := hT2.facts
       obtain ⟨⟨_, _, _, _⟩, ⟨_, _, _, _⟩, _⟩ := hX2.facts))
  all_goals
    obtain ⟨⟨d0, d1, d2, d3⟩, _, ht5⟩ := hX5.facts
    have hs5 := hT5.facts.2.2
    go_wp2_with fail
    refine (text_any ah ap aq ab _ (by omega) (by omega) (by omega)).mono ?_
    rintro e w3 ⟨rfl, hb3⟩
    have hT6 := hT5.below hb3 hs5
    have hX6 := hX5.below hb3 ht5
    have hB6 := Lib.hid (hB5.out.trans (hb3.mono hB5.out.size))
    clear d0 d1 d2 d3 hb3
    obtain ⟨⟨c0, c1, c2, c3⟩, ⟨f0, f1, f2, f3⟩, hs6⟩ := hT6.facts
    obtain ⟨⟨d0, d1, d2, d3⟩, _, ht6⟩ := hX6.facts
    go_wp2_with fail
    refine bodyPost_ret (v := .tuple #[ad0, errV 2]) (by simp [results, Tryz.results46, go_sem, c0, c1, c2, c3]) rfl ⟨rfl, ?_⟩
    exact Box.set hB6.out (Nat.le_refl _) _ _ _ _

theorem read_ok (t p q : Bs) (k : Nat) (w : World) (hr : Ready w) (ht : t.length ≤ 134217728) (hk : k ≤ t.length) (hi : Lib.indexByte t 47 = (k : Int)) (h1 : t.take k = p) (h2 : t.drop k = q) (ah ap aq : Bs) (ab : Bool) (hp : parse p q = .ok ⟨ah, ap, aq, ab⟩) (hx : adText ah ap aq ab = t) :
    Calls Tryz.prog 46 #[.string ⟨t.toArray⟩] w fun e w' => e = .returned (.tuple #[adV ⟨ah, ap, aq, ab⟩, .nilIface]) ∧ Below w.heap.size w w' := by
  have HI := Lib.hid hi
  have HP := Lib.hid hp
  have hlp := take_len h1 ht
  have hlq := drop_len h2 ht
  have HL := Lib.hid (parse_lens hp)
  obtain ⟨l1, l2, l3⟩ := HL.out
  simp only at l1 l2 l3
  have HX := Lib.hid hx
  clear hx
  clear hi hp
  have hb := (Below.refl w.heap.size w).alloc (Nat.le_refl _) (.cells #[.string ⟨#[]⟩, .string ⟨#[]⟩, .string ⟨#[]⟩, .bool false] 98)
  have hbx := box_new w 98 (.string ⟨#[]⟩) (.string ⟨#[]⟩) (.string ⟨#[]⟩) (.bool false)
  have HB := Lib.hid hb
  have HBX := Lib.hid hbx
  have hba := hb.drew.alloc (by simp) (.cells #[.string ⟨#[]⟩, .string ⟨#[]⟩, .string ⟨#[]⟩, .bool false] 98)
  have HBA := Lib.hid hba
  have HQ1 := Lib.hid (hbx.drew.below ((Below.refl (w.heap.size + 1) _).alloc (by simp) (.cells #[.string ⟨#[]⟩, .string ⟨#[]⟩, .string ⟨#[]⟩, .bool false] 98)) (Nat.lt_succ_self _))
  have HXA : Hid (Box ((w.alloc (.cells #[.string ⟨#[]⟩, .string ⟨#[]⟩, .string ⟨#[]⟩, .bool false] 98)).drew.alloc (.cells #[.string ⟨#[]⟩, .string ⟨#[]⟩, .string ⟨#[]⟩, .bool false] 98)) (w.heap.size + 1) 98 (.string ⟨#[]⟩) (.string ⟨#[]⟩) (.string ⟨#[]⟩) (.bool false)) := by have h9 := box_new (w.alloc (.cells #[.string ⟨#[]⟩, .string ⟨#[]⟩, .string ⟨#[]⟩, .bool false] 98)).drew 98 (.string ⟨#[]⟩) (.string ⟨#[]⟩) (.string ⟨#[]⟩) (.bool false); rw [show (w.alloc (.cells #[.string ⟨#[]⟩, .string ⟨#[]⟩, .string ⟨#[]⟩, .bool false] 98)).drew.heap.size = w.heap.size + 1 by simp] at h9; exact h9
  have HRD := Lib.hid (hr.below hb.drew)
  have HRA := Lib.hid (hr.below hba)
  clear hr hb hba hbx
  go_enter Tryz.func46, Tryz.ntmps46
  go_wp2_with fail
  refine (indexByte_47 t _).mono ?_
  rintro e w1 ⟨rfl, rfl⟩
  rw [HI.out]
  go_wp2_with fail
  go_region_with (go_at_call 55; first
    | (refine (parse_ok _ (by omega) (by omega) HRD.out HP.out).mono ?_
       rintro e w2 ⟨rfl, hb2⟩
       have hT2 := HBX.out.drewBelow hb2 (by simp <;> omega)
       have hz2 := hT2.facts.2.2
       have hT5 := hT2.below ((Below.refl w2.heap.size w2).alloc (Nat.le_refl _) (.cells #[.string ⟨ah.toArray⟩, .string ⟨ap.toArray⟩, .string ⟨aq.toArray⟩, .bool ab] 98)) hz2
       have hX5 := box_new w2 98 (.string ⟨ah.toArray⟩) (.string ⟨ap.toArray⟩) (.string ⟨aq.toArray⟩) (.bool ab)
       have hbw := HB.out.drew.trans (hb2.mono (by simp <;> omega))
       obtain ⟨⟨a0, a1, a2, a3⟩, ⟨_, _, _, _⟩, _⟩ := hT2.facts
       have hB5 := Lib.hid ((HB.out.drew.trans (hb2.mono (by simp <;> omega))).alloc (Nat.le_of_lt hz2) (.cells #[.string ⟨ah.toArray⟩, .string ⟨ap.toArray⟩, .string ⟨aq.toArray⟩, .bool ab] 98)))
    | (refine (parse_ok _ (by omega) (by omega) HRA.out HP.out).mono ?_
       rintro e w2 ⟨rfl, hb2⟩
       have hT2 := HQ1.out.below hb2 (by simp <;> omega)
       have hX2 := HXA.out.below hb2 (by simp <;> omega)
       have hz2 := hT2.facts.2.2
       have hT5 := hT2.other (Nat.lt_succ_self _) (.string ⟨ah.toArray⟩) (.string ⟨ap.toArray⟩) (.string ⟨aq.toArray⟩) (.bool ab)
       have hX5 := hX2.stored (.string ⟨ah.toArray⟩) (.string ⟨ap.toArray⟩) (.string ⟨aq.toArray⟩) (.bool ab)
       have hB5 := Lib.hid (Box.set (HBA.out.trans (hb2.mono (by simp <;> omega))) (Nat.le_succ _) (.string ⟨ah.toArray⟩) (.string ⟨ap.toArray⟩) (.string ⟨aq.toArray⟩) (.bool ab))
       obtain ⟨⟨a0, a1, a2, a3⟩, _⟩ := hT2.facts
       obtain ⟨⟨_, _, _, _⟩, ⟨_, _, _, _⟩, _⟩ := hX2.facts))
  all_goals
    obtain ⟨⟨d0, d1, d2, d3⟩, _, ht5⟩ := hX5.facts
    have hs5 := hT5.facts.2.2
    go_wp2_with fail
    refine (text_any ah ap aq ab _ (by omega) (by omega) (by omega)).mono ?_
    rintro e w3 ⟨rfl, hb3⟩
    rw [HX.out]
    have hT6 := hT5.below hb3 hs5
    have hX6 := hX5.below hb3 ht5
    have hB6 := Lib.hid (hB5.out.trans (hb3.mono hB5.out.size))
    clear d0 d1 d2 d3 hb3
    obtain ⟨⟨c0, c1, c2, c3⟩, ⟨f0, f1, f2, f3⟩, hs6⟩ := hT6.facts
    obtain ⟨⟨d0, d1, d2, d3⟩, _, ht6⟩ := hX6.facts
    go_wp2_with fail
    refine bodyPost_ret (v := .tuple #[adV ⟨ah, ap, aq, ab⟩, .nilIface]) (by simp [results, Tryz.results46, go_sem, c0, c1, c2, c3]) rfl ⟨rfl, ?_⟩
    exact Box.set hB6.out (Nat.le_refl _) _ _ _ _

theorem indexByte_hit {c : UInt8} {p q : Bs} (h : c ∉ p) : Lib.indexByte (p ++ c :: q) c = (p.length : Int) := by
  rcases indexByte_one c (p ++ c :: q) with ⟨_, h2⟩ | ⟨p2, q2, e, h2, h3⟩
  · exact absurd (by simp) h2
  · have e1 := cutAt_hit c q p h
    have e2 := cutAt_hit c q2 p2 h2
    rw [e, e2] at e1
    rw [h3, (Prod.mk.inj e1).1]

theorem read_yes (t : Bs) (a : Adr) (w : World) (hr : Ready w) (ht : t.length ≤ 134217728) (h : readL t = some a) :
    Calls Tryz.prog 46 #[.string ⟨t.toArray⟩] w fun e w' => e = .returned (.tuple #[adV a, .nilIface]) ∧ Below w.heap.size w w' := by
  obtain ⟨hp, hx⟩ := readL_some h
  obtain ⟨ah, ap, aq, ab⟩ := a
  rcases indexByte_one 47 t with ⟨_, h2⟩ | ⟨p, q, rfl, h2, h3⟩
  · rw [readL_miss h2] at h; cases h
  · rw [cutAt_hit 47 q p h2] at hp
    exact read_ok _ p (47 :: q) p.length w hr ht (by simp) h3 (by simp) (by simp) ah ap aq ab (by simpa using hp) hx
theorem read_no (t : Bs) (w : World) (hr : Ready w) (ht : t.length ≤ 134217728) (h : readL t = none) :
    Calls Tryz.prog 46 #[.string ⟨t.toArray⟩] w fun e w' => e = .returned (.tuple #[ad0, errV 2]) ∧ Below w.heap.size w w' := by
  rcases indexByte_one 47 t with ⟨h1, h2⟩ | ⟨p, q, rfl, h2, h3⟩
  · exact read_miss t w h1
  · cases hp : parse p (47 :: q) with
    | error n => exact read_err _ p (47 :: q) p.length w hr ht (by simp) h3 (by simp) (by simp) n hp
    | ok a =>
      obtain ⟨ah, ap, aq, ab⟩ := a
      refine read_oth _ p (47 :: q) p.length w hr ht (by simp) h3 (by simp) (by simp) ah ap aq ab hp fun hx => ?_
      have := readL_ok (t := p ++ 47 :: q) (a := ⟨ah, ap, aq, ab⟩) (by rw [cutAt_hit 47 q p h2]; simpa using hp) hx
      rw [this] at h; cases h

/-- The walk from where the slash is found. -/
theorem refRead_err (t p q : Bs) (k : Nat) (w : World) (ht : t.length ≤ 134217728) (hk : k ≤ t.length) (hno : ∀ (j : Nat) (hj : j < t.length), j < k → ¬ t[j] = 47) (hat : ∀ hj : k < t.length, t[k] = 47) (h1 : t.take k = p) (h2 : t.drop k = q) (n : Int) (hn : ¬ n = 0) (hp : parse p q = .error n) :
    Calls Tryz.prog 49 #[.string ⟨t.toArray⟩] w fun e w' => e = .returned (.tuple #[ad0, .bool false]) ∧ Below w.heap.size w w' := by
  have HP := Lib.hid hp
  have hlp := take_len h1 ht
  have hlq := drop_len h2 ht
  have hn1 : (n == 0) = false := beq_eq_false_iff_ne.2 hn
  clear hp
  have hb := (Below.refl w.heap.size w).alloc (Nat.le_refl _) (.cells #[.string ⟨#[]⟩, .string ⟨#[]⟩, .string ⟨#[]⟩, .bool false] 103)
  have hbx := box_new w 103 (.string ⟨#[]⟩) (.string ⟨#[]⟩) (.string ⟨#[]⟩) (.bool false)
  have HB := Lib.hid hb
  have HBX := Lib.hid hbx
  have hba := hb.drew.alloc (by simp) (.cells #[.string ⟨#[]⟩, .string ⟨#[]⟩, .string ⟨#[]⟩, .bool false] 103)
  have HBA := Lib.hid hba
  have HQ1 := Lib.hid (hbx.drew.below ((Below.refl (w.heap.size + 1) _).alloc (by simp) (.cells #[.string ⟨#[]⟩, .string ⟨#[]⟩, .string ⟨#[]⟩, .bool false] 103)) (Nat.lt_succ_self _))
  have HXA : Hid (Box ((w.alloc (.cells #[.string ⟨#[]⟩, .string ⟨#[]⟩, .string ⟨#[]⟩, .bool false] 103)).drew.alloc (.cells #[.string ⟨#[]⟩, .string ⟨#[]⟩, .string ⟨#[]⟩, .bool false] 103)) (w.heap.size + 1) 103 (.string ⟨#[]⟩) (.string ⟨#[]⟩) (.string ⟨#[]⟩) (.bool false)) := by have h9 := box_new (w.alloc (.cells #[.string ⟨#[]⟩, .string ⟨#[]⟩, .string ⟨#[]⟩, .bool false] 103)).drew 103 (.string ⟨#[]⟩) (.string ⟨#[]⟩) (.string ⟨#[]⟩) (.bool false); rw [show (w.alloc (.cells #[.string ⟨#[]⟩, .string ⟨#[]⟩, .string ⟨#[]⟩, .bool false] 103)).drew.heap.size = w.heap.size + 1 by simp] at h9; exact h9
  clear hb hba hbx
  go_enter Tryz.func49, Tryz.ntmps49
  go_wp2_with fail
  go_loop [4] (fun i => ∃ j : Nat, j ≤ k ∧ i = .int .i64 j) (fun i => t.length - (intOf i).toNat)
  case atStart => exact ⟨0, Nat.zero_le _, rfl⟩
  case round =>
    obtain ⟨j, hj, rfl⟩ := hrel
    by_cases hjk : j < k
    · have hjt : j < t.length := by omega
      have h9 := hno j hjt hjk
      have hb9 : ((t[j].toNat : Int) == 47) = false := beq_eq_false_iff_ne.2 (fun h => h9 (UInt8.toNat_inj.1 (show t[j].toNat = 47 by omega)))
      clear h9
      go_wp2_with fail
      go_round
      case rel => exact ⟨j + 1, by omega, by go_num⟩
      case measure => simp [intOf]; omega
    · obtain rfl : j = k := by omega
      by_cases hjt : j < t.length
      case' pos =>
        have h9 := hat hjt
        have hb9 : ((t[j].toNat : Int) == 47) = true := by rw [h9]; rfl
        clear h9
      all_goals
        clear hno hat
        go_wp2_with fail
        go_region_with (go_at_call 59; first
            | (refine (refParse_any p q _ (by omega) (by omega)).mono ?_
               rintro e w2 ⟨rfl, hb2⟩; rw [HP.out]; first | rw [codeOf_err, parseV_err] | rw [codeOf_ok, parseV_ok]
               have hT2 := HBX.out.drewBelow hb2 (by simp <;> omega)
               have hz2 := hT2.facts.2.2
               have hT5 := hT2.below ((Below.refl w2.heap.size w2).alloc (Nat.le_refl _) (.cells #[.string ⟨#[]⟩, .string ⟨#[]⟩, .string ⟨#[]⟩, .bool false] 103)) hz2
               have hX5 := box_new w2 103 (.string ⟨#[]⟩) (.string ⟨#[]⟩) (.string ⟨#[]⟩) (.bool false)
               have hbw := HB.out.drew.trans (hb2.mono (by simp <;> omega))
               obtain ⟨⟨a0, a1, a2, a3⟩, ⟨_, _, _, _⟩, _⟩ := hT2.facts
               have hB5 := Lib.hid ((HB.out.drew.trans (hb2.mono (by simp <;> omega))).alloc (Nat.le_of_lt hz2) (.cells #[.string ⟨#[]⟩, .string ⟨#[]⟩, .string ⟨#[]⟩, .bool false] 103)))
            | (refine (refParse_any p q _ (by omega) (by omega)).mono ?_
               rintro e w2 ⟨rfl, hb2⟩; rw [HP.out]; first | rw [codeOf_err, parseV_err] | rw [codeOf_ok, parseV_ok]
               have hT2 := HQ1.out.below hb2 (by simp <;> omega)
               have hX2 := HXA.out.below hb2 (by simp <;> omega)
               have hz2 := hT2.facts.2.2
               have hT5 := hT2.other (Nat.lt_succ_self _) (.string ⟨#[]⟩) (.string ⟨#[]⟩) (.string ⟨#[]⟩) (.bool false)
               have hX5 := hX2.stored (.string ⟨#[]⟩) (.string ⟨#[]⟩) (.string ⟨#[]⟩) (.bool false)
               have hB5 := Lib.hid (Box.set (HBA.out.trans (hb2.mono (by simp <;> omega))) (Nat.le_succ _) (.string ⟨#[]⟩) (.string ⟨#[]⟩) (.string ⟨#[]⟩) (.bool false))
               obtain ⟨⟨a0, a1, a2, a3⟩, _⟩ := hT2.facts
               obtain ⟨⟨_, _, _, _⟩, ⟨_, _, _, _⟩, _⟩ := hX2.facts))
        all_goals
          obtain ⟨⟨c0, c1, c2, c3⟩, ⟨f0, f1, f2, f3⟩, hs5⟩ := hT5.facts
          go_wp2_with fail
          refine bodyPost_ret (v := .tuple #[ad0, .bool false]) (by simp [results, Tryz.results49, go_sem, c0, c1, c2, c3, a0, a1, a2, a3, hz2]) rfl ⟨rfl, ?_⟩
          first | exact Box.set hB5.out (Nat.le_refl _) _ _ _ _ | exact (Box.set hbw (Nat.le_refl _) _ _ _ _).alloc (by simp <;> omega) _

/-- The walk from where the slash is found. -/
theorem refRead_oth (t p q : Bs) (k : Nat) (w : World) (ht : t.length ≤ 134217728) (hk : k ≤ t.length) (hno : ∀ (j : Nat) (hj : j < t.length), j < k → ¬ t[j] = 47) (hat : ∀ hj : k < t.length, t[k] = 47) (h1 : t.take k = p) (h2 : t.drop k = q) (ah ap aq : Bs) (ab : Bool) (hp : parse p q = .ok ⟨ah, ap, aq, ab⟩) (hx : ¬ adText ah ap aq ab = t) :
    Calls Tryz.prog 49 #[.string ⟨t.toArray⟩] w fun e w' => e = .returned (.tuple #[ad0, .bool false]) ∧ Below w.heap.size w w' := by
  have HP := Lib.hid hp
  have hlp := take_len h1 ht
  have hlq := drop_len h2 ht
  have HL := Lib.hid (parse_lens hp)
  obtain ⟨l1, l2, l3⟩ := HL.out
  simp only at l1 l2 l3
  have hx2 : (adText ah ap aq ab == t) = false := by simpa using hx
  clear hx
  clear hp
  have hb := (Below.refl w.heap.size w).alloc (Nat.le_refl _) (.cells #[.string ⟨#[]⟩, .string ⟨#[]⟩, .string ⟨#[]⟩, .bool false] 103)
  have hbx := box_new w 103 (.string ⟨#[]⟩) (.string ⟨#[]⟩) (.string ⟨#[]⟩) (.bool false)
  have HB := Lib.hid hb
  have HBX := Lib.hid hbx
  have hba := hb.drew.alloc (by simp) (.cells #[.string ⟨#[]⟩, .string ⟨#[]⟩, .string ⟨#[]⟩, .bool false] 103)
  have HBA := Lib.hid hba
  have HQ1 := Lib.hid (hbx.drew.below ((Below.refl (w.heap.size + 1) _).alloc (by simp) (.cells #[.string ⟨#[]⟩, .string ⟨#[]⟩, .string ⟨#[]⟩, .bool false] 103)) (Nat.lt_succ_self _))
  have HXA : Hid (Box ((w.alloc (.cells #[.string ⟨#[]⟩, .string ⟨#[]⟩, .string ⟨#[]⟩, .bool false] 103)).drew.alloc (.cells #[.string ⟨#[]⟩, .string ⟨#[]⟩, .string ⟨#[]⟩, .bool false] 103)) (w.heap.size + 1) 103 (.string ⟨#[]⟩) (.string ⟨#[]⟩) (.string ⟨#[]⟩) (.bool false)) := by have h9 := box_new (w.alloc (.cells #[.string ⟨#[]⟩, .string ⟨#[]⟩, .string ⟨#[]⟩, .bool false] 103)).drew 103 (.string ⟨#[]⟩) (.string ⟨#[]⟩) (.string ⟨#[]⟩) (.bool false); rw [show (w.alloc (.cells #[.string ⟨#[]⟩, .string ⟨#[]⟩, .string ⟨#[]⟩, .bool false] 103)).drew.heap.size = w.heap.size + 1 by simp] at h9; exact h9
  clear hb hba hbx
  go_enter Tryz.func49, Tryz.ntmps49
  go_wp2_with fail
  go_loop [4] (fun i => ∃ j : Nat, j ≤ k ∧ i = .int .i64 j) (fun i => t.length - (intOf i).toNat)
  case atStart => exact ⟨0, Nat.zero_le _, rfl⟩
  case round =>
    obtain ⟨j, hj, rfl⟩ := hrel
    by_cases hjk : j < k
    · have hjt : j < t.length := by omega
      have h9 := hno j hjt hjk
      have hb9 : ((t[j].toNat : Int) == 47) = false := beq_eq_false_iff_ne.2 (fun h => h9 (UInt8.toNat_inj.1 (show t[j].toNat = 47 by omega)))
      clear h9
      go_wp2_with fail
      go_round
      case rel => exact ⟨j + 1, by omega, by go_num⟩
      case measure => simp [intOf]; omega
    · obtain rfl : j = k := by omega
      by_cases hjt : j < t.length
      case' pos =>
        have h9 := hat hjt
        have hb9 : ((t[j].toNat : Int) == 47) = true := by rw [h9]; rfl
        clear h9
      all_goals
        clear hno hat
        go_wp2_with fail
        go_region_with (go_at_call 59; first
            | (refine (refParse_any p q _ (by omega) (by omega)).mono ?_
               rintro e w2 ⟨rfl, hb2⟩; rw [HP.out]; first | rw [codeOf_err, parseV_err] | rw [codeOf_ok, parseV_ok]
               have hT2 := HBX.out.drewBelow hb2 (by simp <;> omega)
               have hz2 := hT2.facts.2.2
               have hT5 := hT2.below ((Below.refl w2.heap.size w2).alloc (Nat.le_refl _) (.cells #[.string ⟨ah.toArray⟩, .string ⟨ap.toArray⟩, .string ⟨aq.toArray⟩, .bool ab] 103)) hz2
               have hX5 := box_new w2 103 (.string ⟨ah.toArray⟩) (.string ⟨ap.toArray⟩) (.string ⟨aq.toArray⟩) (.bool ab)
               have hbw := HB.out.drew.trans (hb2.mono (by simp <;> omega))
               obtain ⟨⟨a0, a1, a2, a3⟩, ⟨_, _, _, _⟩, _⟩ := hT2.facts
               have hB5 := Lib.hid ((HB.out.drew.trans (hb2.mono (by simp <;> omega))).alloc (Nat.le_of_lt hz2) (.cells #[.string ⟨ah.toArray⟩, .string ⟨ap.toArray⟩, .string ⟨aq.toArray⟩, .bool ab] 103)))
            | (refine (refParse_any p q _ (by omega) (by omega)).mono ?_
               rintro e w2 ⟨rfl, hb2⟩; rw [HP.out]; first | rw [codeOf_err, parseV_err] | rw [codeOf_ok, parseV_ok]
               have hT2 := HQ1.out.below hb2 (by simp <;> omega)
               have hX2 := HXA.out.below hb2 (by simp <;> omega)
               have hz2 := hT2.facts.2.2
               have hT5 := hT2.other (Nat.lt_succ_self _) (.string ⟨ah.toArray⟩) (.string ⟨ap.toArray⟩) (.string ⟨aq.toArray⟩) (.bool ab)
               have hX5 := hX2.stored (.string ⟨ah.toArray⟩) (.string ⟨ap.toArray⟩) (.string ⟨aq.toArray⟩) (.bool ab)
               have hB5 := Lib.hid (Box.set (HBA.out.trans (hb2.mono (by simp <;> omega))) (Nat.le_succ _) (.string ⟨ah.toArray⟩) (.string ⟨ap.toArray⟩) (.string ⟨aq.toArray⟩) (.bool ab))
               obtain ⟨⟨a0, a1, a2, a3⟩, _⟩ := hT2.facts
               obtain ⟨⟨_, _, _, _⟩, ⟨_, _, _, _⟩, _⟩ := hX2.facts))
        all_goals
          obtain ⟨⟨d0, d1, d2, d3⟩, _, ht5⟩ := hX5.facts
          have hs5 := hT5.facts.2.2
          go_wp2_with fail
          refine (refText_any ah ap aq ab _ (by omega) (by omega) (by omega)).mono ?_
          rintro e w3 ⟨rfl, hb3⟩
          have hT6 := hT5.below hb3 hs5
          have hX6 := hX5.below hb3 ht5
          have hB6 := Lib.hid (hB5.out.trans (hb3.mono hB5.out.size))
          clear d0 d1 d2 d3 hb3
          obtain ⟨⟨c0, c1, c2, c3⟩, ⟨f0, f1, f2, f3⟩, hs6⟩ := hT6.facts
          obtain ⟨⟨d0, d1, d2, d3⟩, _, ht6⟩ := hX6.facts
          go_wp2_with fail
          refine bodyPost_ret (v := .tuple #[ad0, .bool false]) (by simp [results, Tryz.results49, go_sem, c0, c1, c2, c3]) rfl ⟨rfl, ?_⟩
          exact Box.set hB6.out (Nat.le_refl _) _ _ _ _

/-- The walk from where the slash is found. -/
theorem refRead_ok (t p q : Bs) (k : Nat) (w : World) (ht : t.length ≤ 134217728) (hk : k ≤ t.length) (hno : ∀ (j : Nat) (hj : j < t.length), j < k → ¬ t[j] = 47) (hat : ∀ hj : k < t.length, t[k] = 47) (h1 : t.take k = p) (h2 : t.drop k = q) (ah ap aq : Bs) (ab : Bool) (hp : parse p q = .ok ⟨ah, ap, aq, ab⟩) (hx : adText ah ap aq ab = t) :
    Calls Tryz.prog 49 #[.string ⟨t.toArray⟩] w fun e w' => e = .returned (.tuple #[adV ⟨ah, ap, aq, ab⟩, .bool true]) ∧ Below w.heap.size w w' := by
  have HP := Lib.hid hp
  have hlp := take_len h1 ht
  have hlq := drop_len h2 ht
  have HL := Lib.hid (parse_lens hp)
  obtain ⟨l1, l2, l3⟩ := HL.out
  simp only at l1 l2 l3
  have HX := Lib.hid hx
  clear hx
  clear hp
  have hb := (Below.refl w.heap.size w).alloc (Nat.le_refl _) (.cells #[.string ⟨#[]⟩, .string ⟨#[]⟩, .string ⟨#[]⟩, .bool false] 103)
  have hbx := box_new w 103 (.string ⟨#[]⟩) (.string ⟨#[]⟩) (.string ⟨#[]⟩) (.bool false)
  have HB := Lib.hid hb
  have HBX := Lib.hid hbx
  have hba := hb.drew.alloc (by simp) (.cells #[.string ⟨#[]⟩, .string ⟨#[]⟩, .string ⟨#[]⟩, .bool false] 103)
  have HBA := Lib.hid hba
  have HQ1 := Lib.hid (hbx.drew.below ((Below.refl (w.heap.size + 1) _).alloc (by simp) (.cells #[.string ⟨#[]⟩, .string ⟨#[]⟩, .string ⟨#[]⟩, .bool false] 103)) (Nat.lt_succ_self _))
  have HXA : Hid (Box ((w.alloc (.cells #[.string ⟨#[]⟩, .string ⟨#[]⟩, .string ⟨#[]⟩, .bool false] 103)).drew.alloc (.cells #[.string ⟨#[]⟩, .string ⟨#[]⟩, .string ⟨#[]⟩, .bool false] 103)) (w.heap.size + 1) 103 (.string ⟨#[]⟩) (.string ⟨#[]⟩) (.string ⟨#[]⟩) (.bool false)) := by have h9 := box_new (w.alloc (.cells #[.string ⟨#[]⟩, .string ⟨#[]⟩, .string ⟨#[]⟩, .bool false] 103)).drew 103 (.string ⟨#[]⟩) (.string ⟨#[]⟩) (.string ⟨#[]⟩) (.bool false); rw [show (w.alloc (.cells #[.string ⟨#[]⟩, .string ⟨#[]⟩, .string ⟨#[]⟩, .bool false] 103)).drew.heap.size = w.heap.size + 1 by simp] at h9; exact h9
  clear hb hba hbx
  go_enter Tryz.func49, Tryz.ntmps49
  go_wp2_with fail
  go_loop [4] (fun i => ∃ j : Nat, j ≤ k ∧ i = .int .i64 j) (fun i => t.length - (intOf i).toNat)
  case atStart => exact ⟨0, Nat.zero_le _, rfl⟩
  case round =>
    obtain ⟨j, hj, rfl⟩ := hrel
    by_cases hjk : j < k
    · have hjt : j < t.length := by omega
      have h9 := hno j hjt hjk
      have hb9 : ((t[j].toNat : Int) == 47) = false := beq_eq_false_iff_ne.2 (fun h => h9 (UInt8.toNat_inj.1 (show t[j].toNat = 47 by omega)))
      clear h9
      go_wp2_with fail
      go_round
      case rel => exact ⟨j + 1, by omega, by go_num⟩
      case measure => simp [intOf]; omega
    · obtain rfl : j = k := by omega
      by_cases hjt : j < t.length
      case' pos =>
        have h9 := hat hjt
        have hb9 : ((t[j].toNat : Int) == 47) = true := by rw [h9]; rfl
        clear h9
      all_goals
        clear hno hat
        go_wp2_with fail
        go_region_with (go_at_call 59; first
            | (refine (refParse_any p q _ (by omega) (by omega)).mono ?_
               rintro e w2 ⟨rfl, hb2⟩; rw [HP.out]; first | rw [codeOf_err, parseV_err] | rw [codeOf_ok, parseV_ok]
               have hT2 := HBX.out.drewBelow hb2 (by simp <;> omega)
               have hz2 := hT2.facts.2.2
               have hT5 := hT2.below ((Below.refl w2.heap.size w2).alloc (Nat.le_refl _) (.cells #[.string ⟨ah.toArray⟩, .string ⟨ap.toArray⟩, .string ⟨aq.toArray⟩, .bool ab] 103)) hz2
               have hX5 := box_new w2 103 (.string ⟨ah.toArray⟩) (.string ⟨ap.toArray⟩) (.string ⟨aq.toArray⟩) (.bool ab)
               have hbw := HB.out.drew.trans (hb2.mono (by simp <;> omega))
               obtain ⟨⟨a0, a1, a2, a3⟩, ⟨_, _, _, _⟩, _⟩ := hT2.facts
               have hB5 := Lib.hid ((HB.out.drew.trans (hb2.mono (by simp <;> omega))).alloc (Nat.le_of_lt hz2) (.cells #[.string ⟨ah.toArray⟩, .string ⟨ap.toArray⟩, .string ⟨aq.toArray⟩, .bool ab] 103)))
            | (refine (refParse_any p q _ (by omega) (by omega)).mono ?_
               rintro e w2 ⟨rfl, hb2⟩; rw [HP.out]; first | rw [codeOf_err, parseV_err] | rw [codeOf_ok, parseV_ok]
               have hT2 := HQ1.out.below hb2 (by simp <;> omega)
               have hX2 := HXA.out.below hb2 (by simp <;> omega)
               have hz2 := hT2.facts.2.2
               have hT5 := hT2.other (Nat.lt_succ_self _) (.string ⟨ah.toArray⟩) (.string ⟨ap.toArray⟩) (.string ⟨aq.toArray⟩) (.bool ab)
               have hX5 := hX2.stored (.string ⟨ah.toArray⟩) (.string ⟨ap.toArray⟩) (.string ⟨aq.toArray⟩) (.bool ab)
               have hB5 := Lib.hid (Box.set (HBA.out.trans (hb2.mono (by simp <;> omega))) (Nat.le_succ _) (.string ⟨ah.toArray⟩) (.string ⟨ap.toArray⟩) (.string ⟨aq.toArray⟩) (.bool ab))
               obtain ⟨⟨a0, a1, a2, a3⟩, _⟩ := hT2.facts
               obtain ⟨⟨_, _, _, _⟩, ⟨_, _, _, _⟩, _⟩ := hX2.facts))
        all_goals
          obtain ⟨⟨d0, d1, d2, d3⟩, _, ht5⟩ := hX5.facts
          have hs5 := hT5.facts.2.2
          go_wp2_with fail
          refine (refText_any ah ap aq ab _ (by omega) (by omega) (by omega)).mono ?_
          rintro e w3 ⟨rfl, hb3⟩
          rw [HX.out]
          have hT6 := hT5.below hb3 hs5
          have hX6 := hX5.below hb3 ht5
          have hB6 := Lib.hid (hB5.out.trans (hb3.mono hB5.out.size))
          clear d0 d1 d2 d3 hb3
          obtain ⟨⟨c0, c1, c2, c3⟩, ⟨f0, f1, f2, f3⟩, hs6⟩ := hT6.facts
          obtain ⟨⟨d0, d1, d2, d3⟩, _, ht6⟩ := hX6.facts
          go_wp2_with fail
          refine bodyPost_ret (v := .tuple #[adV ⟨ah, ap, aq, ab⟩, .bool true]) (by simp [results, Tryz.results49, go_sem, c0, c1, c2, c3]) rfl ⟨rfl, ?_⟩
          exact Box.set hB6.out (Nat.le_refl _) _ _ _ _

theorem cut_before {t : Bs} : ∀ (j : Nat) (hj : j < t.length), j < (cutAt 47 t).1.length → ¬ t[j] = 47 := by
  intro j hj hk h
  rcases cutAt_ways 47 t with ⟨h1, e⟩ | ⟨p, q, rfl, h1, e⟩
  · exact h1 (h ▸ List.getElem_mem hj)
  · rw [e] at hk
    simp only at hk
    rw [List.getElem_append_left hk] at h
    exact h1 (h ▸ List.getElem_mem hk)
theorem cut_at {t : Bs} : ∀ hj : (cutAt 47 t).1.length < t.length, t[(cutAt 47 t).1.length] = 47 := by
  intro hj
  rcases cutAt_ways 47 t with ⟨h1, e⟩ | ⟨p, q, rfl, h1, e⟩
  · exact absurd hj (by rw [e]; simp)
  · simp [e]
theorem cut_take (t : Bs) : t.take (cutAt 47 t).1.length = (cutAt 47 t).1 := by
  rcases cutAt_ways 47 t with ⟨h1, e⟩ | ⟨p, q, rfl, h1, e⟩
  · rw [e]; simp
  · rw [e]; simp
theorem refRead_yes (t : Bs) (a : Adr) (w : World) (ht : t.length ≤ 134217728) (h : readL t = some a) :
    Calls Tryz.prog 49 #[.string ⟨t.toArray⟩] w fun e w' => e = .returned (.tuple #[adV a, .bool true]) ∧ Below w.heap.size w w' := by
  obtain ⟨hp, hx⟩ := readL_some h
  obtain ⟨ah, ap, aq, ab⟩ := a
  exact refRead_ok t _ _ _ w ht (cutAt_len 47 t).1 cut_before cut_at (cut_take t) rfl ah ap aq ab hp hx
theorem refRead_no (t : Bs) (w : World) (ht : t.length ≤ 134217728) (h : readL t = none) :
    Calls Tryz.prog 49 #[.string ⟨t.toArray⟩] w fun e w' => e = .returned (.tuple #[ad0, .bool false]) ∧ Below w.heap.size w w' := by
  cases hp : parse (cutAt 47 t).1 (t.drop (cutAt 47 t).1.length) with
  | error n => exact refRead_err t _ _ _ w ht (cutAt_len 47 t).1 cut_before cut_at (cut_take t) rfl n (parse_code hp) hp
  | ok a =>
    obtain ⟨ah, ap, aq, ab⟩ := a
    refine refRead_oth t _ _ _ w ht (cutAt_len 47 t).1 cut_before cut_at (cut_take t) rfl ah ap aq ab hp fun hx => ?_
    rw [readL_ok hp hx] at h; cases h
end A1
end Go.Proofs.YtnppicekfjdefaaGreatDoor
