/- Contracts: purge.under, purge.Match, purge.Wider. Conditions: texts of at most 2^27 bytes. -/
import Derived.Test.YtnppicekfjdefaaGreatDoorPurg4
import Derived.Test.YtnppicekfjdefaaGreatDoorAddrF
namespace Go.Proofs.YtnppicekfjdefaaGreatDoor
open Go.RowKit Pl Ad
attribute [local go_sem] ba_get ba_append ba_extract_end ba_extract_zero ba_extract
set_option maxRecDepth 100000
set_option maxHeartbeats 4000000
set_option linter.unusedVariables false
namespace A1

theorem und_nn (x p : Bs) (w : World) (hr : Ready w) (hlx : x.length ≤ 134217728) (hlp : p.length ≤ 134217728) (hx : readL x = none) (hp : readL p = none) :
    Calls Tryz.prog 47 #[.string ⟨x.toArray⟩, .string ⟨p.toArray⟩] w fun e w' => e = .returned (.bool (undT x p)) ∧ Below w.heap.size w w' := by
  have HU := Lib.hid (show undT x p = false from undT_none1 hx)
  have HX := Lib.hid hx
  have HP := Lib.hid hp
  clear hx hp
  go_enter Tryz.func47, Tryz.ntmps47
  go_wp2_with fail
  refine (read_no x _ hr hlx HX.out).mono ?_
  rintro e w1 ⟨rfl, hb1⟩
  have hBA := Lib.hid (box_new w1 98 (.string ⟨#[]⟩) (.string ⟨#[]⟩) (.string ⟨#[]⟩) (.bool false))
  have hB2 := Lib.hid (hb1.alloc hb1.size (.cells #[.string ⟨#[]⟩, .string ⟨#[]⟩, .string ⟨#[]⟩, .bool false] 98))
  have hr2 := Lib.hid (hr.below hB2.out)
  clear hb1
  go_wp2_with fail
  refine (read_no p _ hr2.out hlp HP.out).mono ?_
  rintro e w2 ⟨rfl, hb2⟩
  have hA2 := hBA.out.below hb2 (by simp)
  have HB3 := Lib.hid (hB2.out.trans (hb2.mono hB2.out.size))
  obtain ⟨⟨c0, c1, c2, c3⟩, _, hz⟩ := hA2.facts
  clear hb2
  go_wp2_with fail
  go_ret
  exact ⟨ret_bool' (by rw [HU.out]), HB3.out.alloc HB3.out.size _⟩

theorem und_ns (ph pp pq : Bs) (pb : Bool) (x p : Bs) (w : World) (hr : Ready w) (hlx : x.length ≤ 134217728) (hlp : p.length ≤ 134217728) (hx : readL x = none) (hp : readL p = some ⟨ph, pp, pq, pb⟩) :
    Calls Tryz.prog 47 #[.string ⟨x.toArray⟩, .string ⟨p.toArray⟩] w fun e w' => e = .returned (.bool (undT x p)) ∧ Below w.heap.size w w' := by
  have HU := Lib.hid (show undT x p = false from undT_none1 hx)
  have HX := Lib.hid hx
  have HP := Lib.hid hp
  clear hx hp
  go_enter Tryz.func47, Tryz.ntmps47
  go_wp2_with fail
  refine (read_no x _ hr hlx HX.out).mono ?_
  rintro e w1 ⟨rfl, hb1⟩
  have hBA := Lib.hid (box_new w1 98 (.string ⟨#[]⟩) (.string ⟨#[]⟩) (.string ⟨#[]⟩) (.bool false))
  have hB2 := Lib.hid (hb1.alloc hb1.size (.cells #[.string ⟨#[]⟩, .string ⟨#[]⟩, .string ⟨#[]⟩, .bool false] 98))
  have hr2 := Lib.hid (hr.below hB2.out)
  clear hb1
  go_wp2_with fail
  refine (read_yes p _ _ hr2.out hlp HP.out).mono ?_
  rintro e w2 ⟨rfl, hb2⟩
  have hA2 := hBA.out.below hb2 (by simp)
  have HB3 := Lib.hid (hB2.out.trans (hb2.mono hB2.out.size))
  obtain ⟨⟨c0, c1, c2, c3⟩, _, hz⟩ := hA2.facts
  clear hb2
  go_wp2_with fail
  go_ret
  exact ⟨ret_bool' (by rw [HU.out]), HB3.out.alloc HB3.out.size _⟩

theorem und_sn (xh xp xq : Bs) (xb : Bool) (x p : Bs) (w : World) (hr : Ready w) (hlx : x.length ≤ 134217728) (hlp : p.length ≤ 134217728) (hx : readL x = some ⟨xh, xp, xq, xb⟩) (hp : readL p = none) :
    Calls Tryz.prog 47 #[.string ⟨x.toArray⟩, .string ⟨p.toArray⟩] w fun e w' => e = .returned (.bool (undT x p)) ∧ Below w.heap.size w w' := by
  have HU := Lib.hid (show undT x p = false from undT_none2 hx hp)
  have HX := Lib.hid hx
  have HP := Lib.hid hp
  clear hx hp
  go_enter Tryz.func47, Tryz.ntmps47
  go_wp2_with fail
  refine (read_yes x _ _ hr hlx HX.out).mono ?_
  rintro e w1 ⟨rfl, hb1⟩
  have hBA := Lib.hid (box_new w1 98 (.string ⟨xh.toArray⟩) (.string ⟨xp.toArray⟩) (.string ⟨xq.toArray⟩) (.bool xb))
  have hB2 := Lib.hid (hb1.alloc hb1.size (.cells #[.string ⟨xh.toArray⟩, .string ⟨xp.toArray⟩, .string ⟨xq.toArray⟩, .bool xb] 98))
  have hr2 := Lib.hid (hr.below hB2.out)
  clear hb1
  go_wp2_with fail
  refine (read_no p _ hr2.out hlp HP.out).mono ?_
  rintro e w2 ⟨rfl, hb2⟩
  have hA2 := hBA.out.below hb2 (by simp)
  have HB3 := Lib.hid (hB2.out.trans (hb2.mono hB2.out.size))
  obtain ⟨⟨c0, c1, c2, c3⟩, _, hz⟩ := hA2.facts
  clear hb2
  go_wp2_with fail
  go_ret
  exact ⟨ret_bool' (by rw [HU.out]), HB3.out.alloc HB3.out.size _⟩

theorem und_ss (xh xp xq : Bs) (xb : Bool) (ph pp pq : Bs) (pb : Bool) (x p : Bs) (w : World) (hr : Ready w) (hlx : x.length ≤ 134217728) (hlp : p.length ≤ 134217728) (hx : readL x = some ⟨xh, xp, xq, xb⟩) (hp : readL p = some ⟨ph, pp, pq, pb⟩) :
    Calls Tryz.prog 47 #[.string ⟨x.toArray⟩, .string ⟨p.toArray⟩] w fun e w' => e = .returned (.bool (undT x p)) ∧ Below w.heap.size w w' := by
  have HU := Lib.hid (show undT x p = (decide (xh = ph) && undB xp pp) from undT_some hx hp)
  have HX := Lib.hid hx
  have HP := Lib.hid hp
  have hl1 : xp.length ≤ 9223372036854775807 := by have := (parse_lens (readL_some hx).1).2.1; simp at this; omega
  have hl2 : pp.length ≤ 9223372036854775807 := by have := (parse_lens (readL_some hp).1).2.1; simp at this; omega
  clear hx hp
  go_enter Tryz.func47, Tryz.ntmps47
  go_wp2_with fail
  refine (read_yes x _ _ hr hlx HX.out).mono ?_
  rintro e w1 ⟨rfl, hb1⟩
  have hBA := Lib.hid (box_new w1 98 (.string ⟨xh.toArray⟩) (.string ⟨xp.toArray⟩) (.string ⟨xq.toArray⟩) (.bool xb))
  have hB2 := Lib.hid (hb1.alloc hb1.size (.cells #[.string ⟨xh.toArray⟩, .string ⟨xp.toArray⟩, .string ⟨xq.toArray⟩, .bool xb] 98))
  have hr2 := Lib.hid (hr.below hB2.out)
  clear hb1
  go_wp2_with fail
  refine (read_yes p _ _ hr2.out hlp HP.out).mono ?_
  rintro e w2 ⟨rfl, hb2⟩
  have hA2 := hBA.out.below hb2 (by simp)
  have HB3 := Lib.hid (hB2.out.trans (hb2.mono hB2.out.size))
  obtain ⟨⟨c0, c1, c2, c3⟩, _, hz⟩ := hA2.facts
  clear hb2
  go_wp2_with (go_at_call 57; refine (under_any xh xp xq ph pp pq xb pb _ (by omega) (by omega)).mono ?_; rintro e w3 ⟨rfl, hb3⟩)
  go_ret
  exact ⟨ret_bool' (by rw [HU.out]; rfl), HB3.out.trans (((Below.refl _ _).alloc (Nat.le_refl _) _).trans (hb3.mono (by simp)) |>.mono HB3.out.size)⟩

theorem und_any (x p : Bs) (w : World) (hr : Ready w) (hlx : x.length ≤ 134217728) (hlp : p.length ≤ 134217728) :
    Calls Tryz.prog 47 #[.string ⟨x.toArray⟩, .string ⟨p.toArray⟩] w fun e w' => e = .returned (.bool (undT x p)) ∧ Below w.heap.size w w' := by
  cases hx : readL x with
  | none =>
    cases hp : readL p with
    | none => exact und_nn x p w hr hlx hlp hx hp
    | some b =>
      obtain ⟨ph, pp, pq, pb⟩ := b
      exact und_ns ph pp pq pb x p w hr hlx hlp hx hp
  | some a =>
    obtain ⟨xh, xp, xq, xb⟩ := a
    cases hp : readL p with
    | none => exact und_sn xh xp xq xb x p w hr hlx hlp hx hp
    | some b =>
      obtain ⟨ph, pp, pq, pb⟩ := b
      exact und_ss xh xp xq xb ph pp pq pb x p w hr hlx hlp hx hp

/-- An item's value: its tags lie in the slice u. -/
@[reducible] def itV (t : Int) (a : Bs) (u : Value) : Value := .agg #[.int .i64 t, .string ⟨a.toArray⟩, u]

theorem matchB_false {p : Pg} {x : It} (h : ¬ ((readL x.addr).isSome = true ∧ checkN p = 0 ∧ p.tenant = x.tenant)) : matchB p x = false := by
  rw [Bool.eq_false_iff]
  intro hm
  obtain ⟨h1, h2, h3, _⟩ := (matchB_iff p x).1 hm
  exact h ⟨h1, h2, h3⟩
theorem matchB_when {p : Pg} {x : It} (h1 : (readL x.addr).isSome = true) (h2 : checkN p = 0) (h3 : p.tenant = x.tenant) : matchB p x = (if p.kind = 1 then decide (p.value = x.addr) else if p.kind = 2 then undT x.addr p.value else decide (p.value ∈ x.tags)) := by
  unfold matchB
  rw [h1, h2, h3]
  simp

theorem match_none (k t : Int) (v : Bs) (xt : Int) (xa : Bs) (u : Value) (tags : List Bs) (w : World) (hr : Ready w) (hl : v.length ≤ 134217728) (hlx : xa.length ≤ 134217728) (hn : readL xa = none) :
    Calls Tryz.prog 33 #[.agg #[.int .i64 k, .int .i64 t, .string ⟨v.toArray⟩], .agg #[.int .i64 xt, .string ⟨xa.toArray⟩, u]] w fun e w' => e = .returned (.bool (matchB ⟨k, t, v⟩ ⟨xt, xa, tags⟩)) ∧ Below w.heap.size w w' := by
  have HM := Lib.hid (matchB_false (p := ⟨k, t, v⟩) (x := ⟨xt, xa, tags⟩) (by rintro ⟨h, _⟩; rw [show readL (It.mk xt xa tags).addr = none from hn] at h; cases h))
  have HN := Lib.hid hn
  clear hn
  have HX := Lib.hid (box3_new w 56 (.int .i64 k) (.int .i64 t) (.string ⟨v.toArray⟩))
  have HY := Lib.hid (box3_new (w.alloc (.cells #[.int .i64 k, .int .i64 t, .string ⟨v.toArray⟩] 56)) 47 (.int .i64 xt) (.string ⟨xa.toArray⟩) u)
  have HX2 := Lib.hid (HX.out.alloc (.cells #[.int .i64 xt, .string ⟨xa.toArray⟩, u] 47))
  have HB := Lib.hid (((Below.refl w.heap.size w).alloc (Nat.le_refl _) (.cells #[.int .i64 k, .int .i64 t, .string ⟨v.toArray⟩] 56)).alloc (by simp) (.cells #[.int .i64 xt, .string ⟨xa.toArray⟩, u] 47))
  have HRD := Lib.hid (hr.below HB.out)
  go_enter Tryz.func33, Tryz.ntmps33
  go_wp2_with fail
  refine (read_no xa _ HRD.out hlx HN.out).mono ?_
  rintro e w1 ⟨rfl, hb1⟩
  have hX1 := HX2.out.older hb1
  have hY1 := HY.out.older hb1
  rw [show (w.alloc (.cells #[.int .i64 k, .int .i64 t, .string ⟨v.toArray⟩] 56)).heap.size = w.heap.size + 1 by simp] at hY1
  have HB1 := Lib.hid (HB.out.trans (hb1.mono (by simp; omega)))
  have HA1 := Lib.hid (HB1.out.alloc HB1.out.size (.cells #[.string ⟨#[]⟩, .string ⟨#[]⟩, .string ⟨#[]⟩, .bool false] 98))
  have HR1 := Lib.hid (hr.below HA1.out)
  have HX1 := Lib.hid (hX1.alloc (.cells #[.string ⟨#[]⟩, .string ⟨#[]⟩, .string ⟨#[]⟩, .bool false] 98))
  have HY1 := Lib.hid (hY1.alloc (.cells #[.string ⟨#[]⟩, .string ⟨#[]⟩, .string ⟨#[]⟩, .bool false] 98))
  obtain ⟨⟨c0, c1, c2⟩, _, hz⟩ := hX1.facts
  obtain ⟨⟨d0, d1, d2⟩, _, hzy⟩ := hY1.facts
  clear hb1 hX1 hY1
  go_wp2_with fail
  go_ret
  exact ⟨ret_bool' HM.out.symm, HA1.out⟩

theorem match_bad1 (k : Int) (t : Int) (v : Bs) (xt : Int) (xa : Bs) (u : Value) (tags : List Bs) (w : World) (hr : Ready w) (hl : v.length ≤ 134217728) (hlx : xa.length ≤ 134217728) (ah ap aq : Bs) (ab : Bool) (hn : readL xa = some ⟨ah, ap, aq, ab⟩) (hc : ¬ checkN ⟨k, t, v⟩ = 0) :
    Calls Tryz.prog 33 #[.agg #[.int .i64 k, .int .i64 t, .string ⟨v.toArray⟩], .agg #[.int .i64 xt, .string ⟨xa.toArray⟩, u]] w fun e w' => e = .returned (.bool (matchB ⟨k, t, v⟩ ⟨xt, xa, tags⟩)) ∧ Below w.heap.size w w' := by
  have hS : (readL (It.mk xt xa tags).addr).isSome = true := by show (readL xa).isSome = true; rw [hn]; rfl
  have HM := Lib.hid (matchB_false (p := ⟨k, t, v⟩) (x := ⟨xt, xa, tags⟩) (by rintro ⟨_, h, _⟩; exact hc h))
  have HC := Lib.hid (chkV_err (p := ⟨k, t, v⟩) rfl hc)
  clear hc
  have HN := Lib.hid hn
  clear hn hS
  have HX := Lib.hid (box3_new w 56 (.int .i64 k) (.int .i64 t) (.string ⟨v.toArray⟩))
  have HY := Lib.hid (box3_new (w.alloc (.cells #[.int .i64 k, .int .i64 t, .string ⟨v.toArray⟩] 56)) 47 (.int .i64 xt) (.string ⟨xa.toArray⟩) u)
  have HX2 := Lib.hid (HX.out.alloc (.cells #[.int .i64 xt, .string ⟨xa.toArray⟩, u] 47))
  have HB := Lib.hid (((Below.refl w.heap.size w).alloc (Nat.le_refl _) (.cells #[.int .i64 k, .int .i64 t, .string ⟨v.toArray⟩] 56)).alloc (by simp) (.cells #[.int .i64 xt, .string ⟨xa.toArray⟩, u] 47))
  have HRD := Lib.hid (hr.below HB.out)
  go_enter Tryz.func33, Tryz.ntmps33
  go_wp2_with fail
  refine (read_yes xa _ _ HRD.out hlx HN.out).mono ?_
  rintro e w1 ⟨rfl, hb1⟩
  have hX1 := HX2.out.older hb1
  have hY1 := HY.out.older hb1
  rw [show (w.alloc (.cells #[.int .i64 k, .int .i64 t, .string ⟨v.toArray⟩] 56)).heap.size = w.heap.size + 1 by simp] at hY1
  have HB1 := Lib.hid (HB.out.trans (hb1.mono (by simp; omega)))
  have HA1 := Lib.hid (HB1.out.alloc HB1.out.size (.cells #[.string ⟨ah.toArray⟩, .string ⟨ap.toArray⟩, .string ⟨aq.toArray⟩, .bool ab] 98))
  have HR1 := Lib.hid (hr.below HA1.out)
  have HX1 := Lib.hid (hX1.alloc (.cells #[.string ⟨ah.toArray⟩, .string ⟨ap.toArray⟩, .string ⟨aq.toArray⟩, .bool ab] 98))
  have HY1 := Lib.hid (hY1.alloc (.cells #[.string ⟨ah.toArray⟩, .string ⟨ap.toArray⟩, .string ⟨aq.toArray⟩, .bool ab] 98))
  obtain ⟨⟨c0, c1, c2⟩, _, hz⟩ := hX1.facts
  obtain ⟨⟨d0, d1, d2⟩, _, hzy⟩ := hY1.facts
  clear hb1 hX1 hY1
  go_wp2_with (go_at_call 35; refine (check_any ⟨k, t, v⟩ _ HR1.out hl).mono ?_; rintro e w2 ⟨rfl, hb2⟩; rw [HC.out]; have hX2 := HX1.out.older hb2; have hY2 := HY1.out.older hb2; obtain ⟨⟨e0, e1, e2⟩, _, hz2⟩ := hX2.facts; obtain ⟨⟨f0, f1, f2⟩, _, hzy2⟩ := hY2.facts; have HB2 := Lib.hid (HA1.out.trans (hb2.mono HA1.out.size)); clear c0 c1 c2 d0 d1 d2)
  go_ret
  exact ⟨ret_bool' HM.out.symm, HB2.out⟩

theorem match_bad2 (k : Int) (t : Int) (v : Bs) (xt : Int) (xa : Bs) (u : Value) (tags : List Bs) (w : World) (hr : Ready w) (hl : v.length ≤ 134217728) (hlx : xa.length ≤ 134217728) (ah ap aq : Bs) (ab : Bool) (hn : readL xa = some ⟨ah, ap, aq, ab⟩) (hc : checkN ⟨k, t, v⟩ = 0) (hne : ¬ t = xt) :
    Calls Tryz.prog 33 #[.agg #[.int .i64 k, .int .i64 t, .string ⟨v.toArray⟩], .agg #[.int .i64 xt, .string ⟨xa.toArray⟩, u]] w fun e w' => e = .returned (.bool (matchB ⟨k, t, v⟩ ⟨xt, xa, tags⟩)) ∧ Below w.heap.size w w' := by
  have hS : (readL (It.mk xt xa tags).addr).isSome = true := by show (readL xa).isSome = true; rw [hn]; rfl
  have HM := Lib.hid (matchB_false (p := ⟨k, t, v⟩) (x := ⟨xt, xa, tags⟩) (by rintro ⟨_, _, h⟩; exact hne h))
  have HC := Lib.hid (chkV_ok hc)
  have htt : (t == xt) = false := beq_eq_false_iff_ne.2 hne
  have htt2 : (t != xt) = true := by rw [bne, htt]; rfl
  clear hc hne
  have HN := Lib.hid hn
  clear hn hS
  have HX := Lib.hid (box3_new w 56 (.int .i64 k) (.int .i64 t) (.string ⟨v.toArray⟩))
  have HY := Lib.hid (box3_new (w.alloc (.cells #[.int .i64 k, .int .i64 t, .string ⟨v.toArray⟩] 56)) 47 (.int .i64 xt) (.string ⟨xa.toArray⟩) u)
  have HX2 := Lib.hid (HX.out.alloc (.cells #[.int .i64 xt, .string ⟨xa.toArray⟩, u] 47))
  have HB := Lib.hid (((Below.refl w.heap.size w).alloc (Nat.le_refl _) (.cells #[.int .i64 k, .int .i64 t, .string ⟨v.toArray⟩] 56)).alloc (by simp) (.cells #[.int .i64 xt, .string ⟨xa.toArray⟩, u] 47))
  have HRD := Lib.hid (hr.below HB.out)
  go_enter Tryz.func33, Tryz.ntmps33
  go_wp2_with fail
  refine (read_yes xa _ _ HRD.out hlx HN.out).mono ?_
  rintro e w1 ⟨rfl, hb1⟩
  have hX1 := HX2.out.older hb1
  have hY1 := HY.out.older hb1
  rw [show (w.alloc (.cells #[.int .i64 k, .int .i64 t, .string ⟨v.toArray⟩] 56)).heap.size = w.heap.size + 1 by simp] at hY1
  have HB1 := Lib.hid (HB.out.trans (hb1.mono (by simp; omega)))
  have HA1 := Lib.hid (HB1.out.alloc HB1.out.size (.cells #[.string ⟨ah.toArray⟩, .string ⟨ap.toArray⟩, .string ⟨aq.toArray⟩, .bool ab] 98))
  have HR1 := Lib.hid (hr.below HA1.out)
  have HX1 := Lib.hid (hX1.alloc (.cells #[.string ⟨ah.toArray⟩, .string ⟨ap.toArray⟩, .string ⟨aq.toArray⟩, .bool ab] 98))
  have HY1 := Lib.hid (hY1.alloc (.cells #[.string ⟨ah.toArray⟩, .string ⟨ap.toArray⟩, .string ⟨aq.toArray⟩, .bool ab] 98))
  obtain ⟨⟨c0, c1, c2⟩, _, hz⟩ := hX1.facts
  obtain ⟨⟨d0, d1, d2⟩, _, hzy⟩ := hY1.facts
  clear hb1 hX1 hY1
  go_wp2_with (go_at_call 35; refine (check_any ⟨k, t, v⟩ _ HR1.out hl).mono ?_; rintro e w2 ⟨rfl, hb2⟩; rw [HC.out]; have hX2 := HX1.out.older hb2; have hY2 := HY1.out.older hb2; obtain ⟨⟨e0, e1, e2⟩, _, hz2⟩ := hX2.facts; obtain ⟨⟨f0, f1, f2⟩, _, hzy2⟩ := hY2.facts; have HB2 := Lib.hid (HA1.out.trans (hb2.mono HA1.out.size)); clear c0 c1 c2 d0 d1 d2)
  go_ret
  exact ⟨ret_bool' HM.out.symm, HB2.out⟩

theorem match_exact (t : Int) (v : Bs) (xt : Int) (xa : Bs) (u : Value) (tags : List Bs) (w : World) (hr : Ready w) (hl : v.length ≤ 134217728) (hlx : xa.length ≤ 134217728) (ah ap aq : Bs) (ab : Bool) (hn : readL xa = some ⟨ah, ap, aq, ab⟩) (hc : checkN ⟨1, t, v⟩ = 0) (ht : t = xt) (htags : StrsV w u tags) (htl : tags.length ≤ 9223372036854775807) :
    Calls Tryz.prog 33 #[.agg #[.int .i64 1, .int .i64 t, .string ⟨v.toArray⟩], .agg #[.int .i64 xt, .string ⟨xa.toArray⟩, u]] w fun e w' => e = .returned (.bool (matchB ⟨1, t, v⟩ ⟨xt, xa, tags⟩)) ∧ Below w.heap.size w w' := by
  have hS : (readL (It.mk xt xa tags).addr).isSome = true := by show (readL xa).isSome = true; rw [hn]; rfl
  have HM := Lib.hid (matchB_when (p := ⟨1, t, v⟩) (x := ⟨xt, xa, tags⟩) hS hc ht)
  have HC := Lib.hid (chkV_ok hc)
  have htt : (t == xt) = true := beq_iff_eq.2 ht
  have htt2 : (t != xt) = false := by rw [bne, htt]; rfl
  have HT := Lib.hid htags
  clear hc ht htags
  have HN := Lib.hid hn
  clear hn hS
  have HX := Lib.hid (box3_new w 56 (.int .i64 1) (.int .i64 t) (.string ⟨v.toArray⟩))
  have HY := Lib.hid (box3_new (w.alloc (.cells #[.int .i64 1, .int .i64 t, .string ⟨v.toArray⟩] 56)) 47 (.int .i64 xt) (.string ⟨xa.toArray⟩) u)
  have HX2 := Lib.hid (HX.out.alloc (.cells #[.int .i64 xt, .string ⟨xa.toArray⟩, u] 47))
  have HB := Lib.hid (((Below.refl w.heap.size w).alloc (Nat.le_refl _) (.cells #[.int .i64 1, .int .i64 t, .string ⟨v.toArray⟩] 56)).alloc (by simp) (.cells #[.int .i64 xt, .string ⟨xa.toArray⟩, u] 47))
  have HRD := Lib.hid (hr.below HB.out)
  go_enter Tryz.func33, Tryz.ntmps33
  go_wp2_with fail
  refine (read_yes xa _ _ HRD.out hlx HN.out).mono ?_
  rintro e w1 ⟨rfl, hb1⟩
  have hX1 := HX2.out.older hb1
  have hY1 := HY.out.older hb1
  rw [show (w.alloc (.cells #[.int .i64 1, .int .i64 t, .string ⟨v.toArray⟩] 56)).heap.size = w.heap.size + 1 by simp] at hY1
  have HB1 := Lib.hid (HB.out.trans (hb1.mono (by simp; omega)))
  have HA1 := Lib.hid (HB1.out.alloc HB1.out.size (.cells #[.string ⟨ah.toArray⟩, .string ⟨ap.toArray⟩, .string ⟨aq.toArray⟩, .bool ab] 98))
  have HR1 := Lib.hid (hr.below HA1.out)
  have HX1 := Lib.hid (hX1.alloc (.cells #[.string ⟨ah.toArray⟩, .string ⟨ap.toArray⟩, .string ⟨aq.toArray⟩, .bool ab] 98))
  have HY1 := Lib.hid (hY1.alloc (.cells #[.string ⟨ah.toArray⟩, .string ⟨ap.toArray⟩, .string ⟨aq.toArray⟩, .bool ab] 98))
  obtain ⟨⟨c0, c1, c2⟩, _, hz⟩ := hX1.facts
  obtain ⟨⟨d0, d1, d2⟩, _, hzy⟩ := hY1.facts
  clear hb1 hX1 hY1
  go_wp2_with (first | (go_at_call 35; refine (check_any ⟨1, t, v⟩ _ HR1.out hl).mono ?_; rintro e w2 ⟨rfl, hb2⟩; rw [HC.out]; have hX2 := HX1.out.older hb2; have hY2 := HY1.out.older hb2; obtain ⟨⟨e0, e1, e2⟩, _, hz2⟩ := hX2.facts; obtain ⟨⟨f0, f1, f2⟩, _, hzy2⟩ := hY2.facts; have HB2 := Lib.hid (HA1.out.trans (hb2.mono HA1.out.size)); clear c0 c1 c2 d0 d1 d2))
  go_ret
  exact ⟨ret_bool' (by rw [HM.out, Bool.eq_iff_iff]; simp), HB2.out⟩

theorem match_prefix (t : Int) (v : Bs) (xt : Int) (xa : Bs) (u : Value) (tags : List Bs) (w : World) (hr : Ready w) (hl : v.length ≤ 134217728) (hlx : xa.length ≤ 134217728) (ah ap aq : Bs) (ab : Bool) (hn : readL xa = some ⟨ah, ap, aq, ab⟩) (hc : checkN ⟨2, t, v⟩ = 0) (ht : t = xt) (htags : StrsV w u tags) (htl : tags.length ≤ 9223372036854775807) :
    Calls Tryz.prog 33 #[.agg #[.int .i64 2, .int .i64 t, .string ⟨v.toArray⟩], .agg #[.int .i64 xt, .string ⟨xa.toArray⟩, u]] w fun e w' => e = .returned (.bool (matchB ⟨2, t, v⟩ ⟨xt, xa, tags⟩)) ∧ Below w.heap.size w w' := by
  have hS : (readL (It.mk xt xa tags).addr).isSome = true := by show (readL xa).isSome = true; rw [hn]; rfl
  have HM := Lib.hid (matchB_when (p := ⟨2, t, v⟩) (x := ⟨xt, xa, tags⟩) hS hc ht)
  have HC := Lib.hid (chkV_ok hc)
  have htt : (t == xt) = true := beq_iff_eq.2 ht
  have htt2 : (t != xt) = false := by rw [bne, htt]; rfl
  have HT := Lib.hid htags
  clear hc ht htags
  have HN := Lib.hid hn
  clear hn hS
  have HX := Lib.hid (box3_new w 56 (.int .i64 2) (.int .i64 t) (.string ⟨v.toArray⟩))
  have HY := Lib.hid (box3_new (w.alloc (.cells #[.int .i64 2, .int .i64 t, .string ⟨v.toArray⟩] 56)) 47 (.int .i64 xt) (.string ⟨xa.toArray⟩) u)
  have HX2 := Lib.hid (HX.out.alloc (.cells #[.int .i64 xt, .string ⟨xa.toArray⟩, u] 47))
  have HB := Lib.hid (((Below.refl w.heap.size w).alloc (Nat.le_refl _) (.cells #[.int .i64 2, .int .i64 t, .string ⟨v.toArray⟩] 56)).alloc (by simp) (.cells #[.int .i64 xt, .string ⟨xa.toArray⟩, u] 47))
  have HRD := Lib.hid (hr.below HB.out)
  go_enter Tryz.func33, Tryz.ntmps33
  go_wp2_with fail
  refine (read_yes xa _ _ HRD.out hlx HN.out).mono ?_
  rintro e w1 ⟨rfl, hb1⟩
  have hX1 := HX2.out.older hb1
  have hY1 := HY.out.older hb1
  rw [show (w.alloc (.cells #[.int .i64 2, .int .i64 t, .string ⟨v.toArray⟩] 56)).heap.size = w.heap.size + 1 by simp] at hY1
  have HB1 := Lib.hid (HB.out.trans (hb1.mono (by simp; omega)))
  have HA1 := Lib.hid (HB1.out.alloc HB1.out.size (.cells #[.string ⟨ah.toArray⟩, .string ⟨ap.toArray⟩, .string ⟨aq.toArray⟩, .bool ab] 98))
  have HR1 := Lib.hid (hr.below HA1.out)
  have HX1 := Lib.hid (hX1.alloc (.cells #[.string ⟨ah.toArray⟩, .string ⟨ap.toArray⟩, .string ⟨aq.toArray⟩, .bool ab] 98))
  have HY1 := Lib.hid (hY1.alloc (.cells #[.string ⟨ah.toArray⟩, .string ⟨ap.toArray⟩, .string ⟨aq.toArray⟩, .bool ab] 98))
  obtain ⟨⟨c0, c1, c2⟩, _, hz⟩ := hX1.facts
  obtain ⟨⟨d0, d1, d2⟩, _, hzy⟩ := hY1.facts
  clear hb1 hX1 hY1
  go_wp2_with (first | (go_at_call 35; refine (check_any ⟨2, t, v⟩ _ HR1.out hl).mono ?_; rintro e w2 ⟨rfl, hb2⟩; rw [HC.out]; have hX2 := HX1.out.older hb2; have hY2 := HY1.out.older hb2; obtain ⟨⟨e0, e1, e2⟩, _, hz2⟩ := hX2.facts; obtain ⟨⟨f0, f1, f2⟩, _, hzy2⟩ := hY2.facts; have HB2 := Lib.hid (HA1.out.trans (hb2.mono HA1.out.size)); clear c0 c1 c2 d0 d1 d2) | (go_at_call 47; refine (und_any xa v _ (hr.below HB2.out) hlx hl).mono ?_; rintro e w3 ⟨rfl, hb3⟩))
  go_ret
  exact ⟨ret_bool' (by rw [HM.out, Bool.eq_iff_iff]; simp), HB2.out.trans (hb3.mono HB2.out.size)⟩

theorem match_tagged (t : Int) (v : Bs) (xt : Int) (xa : Bs) (u : Value) (tags : List Bs) (w : World) (hr : Ready w) (hl : v.length ≤ 134217728) (hlx : xa.length ≤ 134217728) (ah ap aq : Bs) (ab : Bool) (hn : readL xa = some ⟨ah, ap, aq, ab⟩) (hc : checkN ⟨3, t, v⟩ = 0) (ht : t = xt) (htags : StrsV w u tags) (htl : tags.length ≤ 9223372036854775807) :
    Calls Tryz.prog 33 #[.agg #[.int .i64 3, .int .i64 t, .string ⟨v.toArray⟩], .agg #[.int .i64 xt, .string ⟨xa.toArray⟩, u]] w fun e w' => e = .returned (.bool (matchB ⟨3, t, v⟩ ⟨xt, xa, tags⟩)) ∧ Below w.heap.size w w' := by
  have hS : (readL (It.mk xt xa tags).addr).isSome = true := by show (readL xa).isSome = true; rw [hn]; rfl
  have HM := Lib.hid (matchB_when (p := ⟨3, t, v⟩) (x := ⟨xt, xa, tags⟩) hS hc ht)
  have HC := Lib.hid (chkV_ok hc)
  have htt : (t == xt) = true := beq_iff_eq.2 ht
  have htt2 : (t != xt) = false := by rw [bne, htt]; rfl
  have HT := Lib.hid htags
  clear hc ht htags
  have HN := Lib.hid hn
  clear hn hS
  have HX := Lib.hid (box3_new w 56 (.int .i64 3) (.int .i64 t) (.string ⟨v.toArray⟩))
  have HY := Lib.hid (box3_new (w.alloc (.cells #[.int .i64 3, .int .i64 t, .string ⟨v.toArray⟩] 56)) 47 (.int .i64 xt) (.string ⟨xa.toArray⟩) u)
  have HX2 := Lib.hid (HX.out.alloc (.cells #[.int .i64 xt, .string ⟨xa.toArray⟩, u] 47))
  have HB := Lib.hid (((Below.refl w.heap.size w).alloc (Nat.le_refl _) (.cells #[.int .i64 3, .int .i64 t, .string ⟨v.toArray⟩] 56)).alloc (by simp) (.cells #[.int .i64 xt, .string ⟨xa.toArray⟩, u] 47))
  have HRD := Lib.hid (hr.below HB.out)
  go_enter Tryz.func33, Tryz.ntmps33
  go_wp2_with fail
  refine (read_yes xa _ _ HRD.out hlx HN.out).mono ?_
  rintro e w1 ⟨rfl, hb1⟩
  have hX1 := HX2.out.older hb1
  have hY1 := HY.out.older hb1
  rw [show (w.alloc (.cells #[.int .i64 3, .int .i64 t, .string ⟨v.toArray⟩] 56)).heap.size = w.heap.size + 1 by simp] at hY1
  have HB1 := Lib.hid (HB.out.trans (hb1.mono (by simp; omega)))
  have HA1 := Lib.hid (HB1.out.alloc HB1.out.size (.cells #[.string ⟨ah.toArray⟩, .string ⟨ap.toArray⟩, .string ⟨aq.toArray⟩, .bool ab] 98))
  have HR1 := Lib.hid (hr.below HA1.out)
  have HX1 := Lib.hid (hX1.alloc (.cells #[.string ⟨ah.toArray⟩, .string ⟨ap.toArray⟩, .string ⟨aq.toArray⟩, .bool ab] 98))
  have HY1 := Lib.hid (hY1.alloc (.cells #[.string ⟨ah.toArray⟩, .string ⟨ap.toArray⟩, .string ⟨aq.toArray⟩, .bool ab] 98))
  obtain ⟨⟨c0, c1, c2⟩, _, hz⟩ := hX1.facts
  obtain ⟨⟨d0, d1, d2⟩, _, hzy⟩ := hY1.facts
  clear hb1 hX1 hY1
  go_wp2_with (first | (go_at_call 35; refine (check_any ⟨3, t, v⟩ _ HR1.out hl).mono ?_; rintro e w2 ⟨rfl, hb2⟩; rw [HC.out]; have hX2 := HX1.out.older hb2; have hY2 := HY1.out.older hb2; obtain ⟨⟨e0, e1, e2⟩, _, hz2⟩ := hX2.facts; obtain ⟨⟨f0, f1, f2⟩, _, hzy2⟩ := hY2.facts; have HB2 := Lib.hid (HA1.out.trans (hb2.mono HA1.out.size)); clear c0 c1 c2 d0 d1 d2) | (go_at_call 48; refine (contains_any u tags v _ (HT.out.below HB2.out) htl).mono ?_; rintro e w3 ⟨rfl, rfl⟩))
  go_ret
  exact ⟨ret_bool' (by rw [HM.out, Bool.eq_iff_iff]; simp), HB2.out⟩

theorem match_any (p : Pg) (x : It) (u : Value) (w : World) (hr : Ready w) (hl : p.value.length ≤ 134217728) (hlx : x.addr.length ≤ 134217728) (htags : StrsV w u x.tags) (htl : x.tags.length ≤ 9223372036854775807) :
    Calls Tryz.prog 33 #[pgV p, itV x.tenant x.addr u] w fun e w' => e = .returned (.bool (matchB p x)) ∧ Below w.heap.size w w' := by
  obtain ⟨k, t, v⟩ := p
  obtain ⟨xt, xa, tags⟩ := x
  simp only at hl hlx htags htl
  cases hn : readL xa with
  | none => exact match_none k t v xt xa u tags w hr hl hlx hn
  | some a =>
    obtain ⟨ah, ap, aq, ab⟩ := a
    by_cases hc : checkN ⟨k, t, v⟩ = 0
    · by_cases ht : t = xt
      · have hk := (checkN_ok hc).1
        have ck : k = 1 ∨ k = 2 ∨ k = 3 := by simp only at hk; omega
        rcases ck with rfl | rfl | rfl
        · exact match_exact t v xt xa u tags w hr hl hlx ah ap aq ab hn hc ht htags htl
        · exact match_prefix t v xt xa u tags w hr hl hlx ah ap aq ab hn hc ht htags htl
        · exact match_tagged t v xt xa u tags w hr hl hlx ah ap aq ab hn hc ht htags htl
      · exact match_bad2 k t v xt xa u tags w hr hl hlx ah ap aq ab hn hc ht
    · exact match_bad1 k t v xt xa u tags w hr hl hlx ah ap aq ab hn hc
end A1
end Go.Proofs.YtnppicekfjdefaaGreatDoor
