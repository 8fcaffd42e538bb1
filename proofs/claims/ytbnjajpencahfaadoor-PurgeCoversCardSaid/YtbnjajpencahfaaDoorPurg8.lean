/- Contract: purge.Wider. Conditions: texts of at most 2^27 bytes. -/
import Derived.Test.YtbnjajpencahfaaDoorPurg5
import Derived.Test.YtbnjajpencahfaaDoorPurgE
namespace Go.Proofs.YtbnjajpencahfaaDoor
open Go.RowKit Pl Ad
attribute [local go_sem] ba_get ba_append ba_extract_end ba_extract_zero ba_extract
set_option maxRecDepth 100000
set_option maxHeartbeats 4000000
set_option linter.unusedVariables false
namespace A1
attribute [local go_sem] guard_pg eql_pg
attribute [-go_sem] run_eql_struct run_eqGuard_agg
theorem wider_no1 {a b : Pg} (h : ¬ checkN a = 0) : widerB a b = false := by rw [Bool.eq_false_iff]; exact fun e => h ((widerB_iff a b).1 e).1
theorem wider_no2 {a b : Pg} (h : ¬ checkN b = 0) : widerB a b = false := by rw [Bool.eq_false_iff]; exact fun e => h ((widerB_iff a b).1 e).2.1
theorem wider_no3 {a b : Pg} (h : ¬ a.tenant = b.tenant) : widerB a b = false := by rw [Bool.eq_false_iff]; exact fun e => h ((widerB_iff a b).1 e).2.2.1
theorem wider_no4 {a b : Pg} (h : ¬ a = b) (h2 : ¬ a.kind = 2) : widerB a b = false := by
  rw [Bool.eq_false_iff]
  intro e
  rcases ((widerB_iff a b).1 e).2.2.2 with e | e
  · exact h e
  · exact h2 e.1
theorem wider_no5 {a b : Pg} (h : ¬ a = b) (h2 : b.kind = 3) : widerB a b = false := by
  rw [Bool.eq_false_iff]
  intro e
  rcases ((widerB_iff a b).1 e).2.2.2 with e | e
  · exact h e
  · exact e.2.1 h2
theorem wider_yes {a b : Pg} (ha : checkN a = 0) (hb : checkN b = 0) (h : a = b) : widerB a b = true := (widerB_iff a b).2 ⟨ha, hb, by rw [h], .inl h⟩
theorem wider_und {a b : Pg} (ha : checkN a = 0) (hb : checkN b = 0) (ht : a.tenant = b.tenant) (h : ¬ a = b) (h2 : a.kind = 2) (h3 : ¬ b.kind = 3) : widerB a b = undT b.value a.value := by
  rw [Bool.eq_iff_iff, widerB_iff]
  constructor
  · rintro ⟨_, _, _, e | e⟩
    · exact absurd e h
    · exact e.2.2
  · exact fun e => ⟨ha, hb, ht, .inr ⟨h2, h3, e⟩⟩

theorem wider_a (ak at' : Int) (av : Bs) (bk bt : Int) (bv : Bs) (w : World) (hr : Ready w) (hla : av.length ≤ 134217728) (hlb : bv.length ≤ 134217728) (ha : ¬ checkN ⟨ak, at', av⟩ = 0) :
    Calls Tryd.prog 12 #[.agg #[.int .i64 ak, .int .i64 at', .string ⟨av.toArray⟩], .agg #[.int .i64 bk, .int .i64 bt, .string ⟨bv.toArray⟩]] w fun e w' => e = .returned (.bool (widerB ⟨ak, at', av⟩ ⟨bk, bt, bv⟩)) ∧ Below w.heap.size w w' := by
  have HW := Lib.hid (show widerB ⟨ak, at', av⟩ ⟨bk, bt, bv⟩ = false from wider_no1 ha)
  have HCa := Lib.hid (chkV_err (p := ⟨ak, at', av⟩) rfl ha)
  clear ha
  have HX := Lib.hid (box3_new w 30 (.int .i64 ak) (.int .i64 at') (.string ⟨av.toArray⟩))
  have HY := Lib.hid (box3_new (w.alloc (.cells #[.int .i64 ak, .int .i64 at', .string ⟨av.toArray⟩] 30)) 30 (.int .i64 bk) (.int .i64 bt) (.string ⟨bv.toArray⟩))
  have HX2 := Lib.hid (HX.out.alloc (.cells #[.int .i64 bk, .int .i64 bt, .string ⟨bv.toArray⟩] 30))
  have HB := Lib.hid (((Below.refl w.heap.size w).alloc (Nat.le_refl _) (.cells #[.int .i64 ak, .int .i64 at', .string ⟨av.toArray⟩] 30)).alloc (by simp) (.cells #[.int .i64 bk, .int .i64 bt, .string ⟨bv.toArray⟩] 30))
  have HRD := Lib.hid (hr.below HB.out)
  go_enter Tryd.func12, Tryd.ntmps12
  go_wp2_with fail
  refine (check_any ⟨ak, at', av⟩ _ HRD.out hla).mono ?_
  rintro e w1 ⟨rfl, hb1⟩
  rw [HCa.out]
  have hX1 := HX2.out.older hb1
  have hY1 := HY.out.older hb1
  rw [show (w.alloc (.cells #[.int .i64 ak, .int .i64 at', .string ⟨av.toArray⟩] 30)).heap.size = w.heap.size + 1 by simp] at hY1
  have HX1 := Lib.hid hX1
  have HY1 := Lib.hid hY1
  have HB1 := Lib.hid (HB.out.trans (hb1.mono (by simp; omega)))
  obtain ⟨⟨c0, c1, c2⟩, _, hz⟩ := hX1.facts
  obtain ⟨⟨d0, d1, d2⟩, _, hzy⟩ := hY1.facts
  have HR1 := Lib.hid (hr.below HB1.out)
  clear hb1 hX1 hY1
  go_wp2_with fail
  go_ret
  exact ⟨ret_bool' (by rw [HW.out]), HB1.out⟩

theorem wider_b (ak at' : Int) (av : Bs) (bk bt : Int) (bv : Bs) (w : World) (hr : Ready w) (hla : av.length ≤ 134217728) (hlb : bv.length ≤ 134217728) (ha : checkN ⟨ak, at', av⟩ = 0) (hb : ¬ checkN ⟨bk, bt, bv⟩ = 0) :
    Calls Tryd.prog 12 #[.agg #[.int .i64 ak, .int .i64 at', .string ⟨av.toArray⟩], .agg #[.int .i64 bk, .int .i64 bt, .string ⟨bv.toArray⟩]] w fun e w' => e = .returned (.bool (widerB ⟨ak, at', av⟩ ⟨bk, bt, bv⟩)) ∧ Below w.heap.size w w' := by
  have HW := Lib.hid (show widerB ⟨ak, at', av⟩ ⟨bk, bt, bv⟩ = false from wider_no2 hb)
  have HCa := Lib.hid (chkV_ok ha)
  have HCb := Lib.hid (chkV_err (p := ⟨bk, bt, bv⟩) rfl hb)
  clear ha hb
  have HX := Lib.hid (box3_new w 30 (.int .i64 ak) (.int .i64 at') (.string ⟨av.toArray⟩))
  have HY := Lib.hid (box3_new (w.alloc (.cells #[.int .i64 ak, .int .i64 at', .string ⟨av.toArray⟩] 30)) 30 (.int .i64 bk) (.int .i64 bt) (.string ⟨bv.toArray⟩))
  have HX2 := Lib.hid (HX.out.alloc (.cells #[.int .i64 bk, .int .i64 bt, .string ⟨bv.toArray⟩] 30))
  have HB := Lib.hid (((Below.refl w.heap.size w).alloc (Nat.le_refl _) (.cells #[.int .i64 ak, .int .i64 at', .string ⟨av.toArray⟩] 30)).alloc (by simp) (.cells #[.int .i64 bk, .int .i64 bt, .string ⟨bv.toArray⟩] 30))
  have HRD := Lib.hid (hr.below HB.out)
  go_enter Tryd.func12, Tryd.ntmps12
  go_wp2_with fail
  refine (check_any ⟨ak, at', av⟩ _ HRD.out hla).mono ?_
  rintro e w1 ⟨rfl, hb1⟩
  rw [HCa.out]
  have hX1 := HX2.out.older hb1
  have hY1 := HY.out.older hb1
  rw [show (w.alloc (.cells #[.int .i64 ak, .int .i64 at', .string ⟨av.toArray⟩] 30)).heap.size = w.heap.size + 1 by simp] at hY1
  have HX1 := Lib.hid hX1
  have HY1 := Lib.hid hY1
  have HB1 := Lib.hid (HB.out.trans (hb1.mono (by simp; omega)))
  obtain ⟨⟨c0, c1, c2⟩, _, hz⟩ := hX1.facts
  obtain ⟨⟨d0, d1, d2⟩, _, hzy⟩ := hY1.facts
  have HR1 := Lib.hid (hr.below HB1.out)
  clear hb1 hX1 hY1
  go_wp2_with (go_at_call 10; refine (check_any ⟨bk, bt, bv⟩ _ HR1.out hlb).mono ?_; rintro e w2 ⟨rfl, hb2⟩; rw [HCb.out]; have hX2 := HX1.out.older hb2; have hY2 := HY1.out.older hb2; obtain ⟨⟨e0, e1, e2⟩, _, hz2⟩ := hX2.facts; obtain ⟨⟨f0, f1, f2⟩, _, hzy2⟩ := hY2.facts; have HB2 := Lib.hid (HB1.out.trans (hb2.mono HB1.out.size)); clear c0 c1 c2 d0 d1 d2)
  go_ret
  exact ⟨ret_bool' (by rw [HW.out]), HB2.out⟩

theorem wider_t (ak at' : Int) (av : Bs) (bk bt : Int) (bv : Bs) (w : World) (hr : Ready w) (hla : av.length ≤ 134217728) (hlb : bv.length ≤ 134217728) (ha : checkN ⟨ak, at', av⟩ = 0) (hb : checkN ⟨bk, bt, bv⟩ = 0) (ht : ¬ at' = bt) :
    Calls Tryd.prog 12 #[.agg #[.int .i64 ak, .int .i64 at', .string ⟨av.toArray⟩], .agg #[.int .i64 bk, .int .i64 bt, .string ⟨bv.toArray⟩]] w fun e w' => e = .returned (.bool (widerB ⟨ak, at', av⟩ ⟨bk, bt, bv⟩)) ∧ Below w.heap.size w w' := by
  have HW := Lib.hid (show widerB ⟨ak, at', av⟩ ⟨bk, bt, bv⟩ = false from wider_no3 ht)
  have HCa := Lib.hid (chkV_ok ha)
  have HCb := Lib.hid (chkV_ok hb)
  clear ha hb
  have ht1 : (at' == bt) = false := beq_eq_false_iff_ne.2 ht
  have ht2 : (at' != bt) = true := by rw [bne, ht1]; rfl
  clear ht
  have HX := Lib.hid (box3_new w 30 (.int .i64 ak) (.int .i64 at') (.string ⟨av.toArray⟩))
  have HY := Lib.hid (box3_new (w.alloc (.cells #[.int .i64 ak, .int .i64 at', .string ⟨av.toArray⟩] 30)) 30 (.int .i64 bk) (.int .i64 bt) (.string ⟨bv.toArray⟩))
  have HX2 := Lib.hid (HX.out.alloc (.cells #[.int .i64 bk, .int .i64 bt, .string ⟨bv.toArray⟩] 30))
  have HB := Lib.hid (((Below.refl w.heap.size w).alloc (Nat.le_refl _) (.cells #[.int .i64 ak, .int .i64 at', .string ⟨av.toArray⟩] 30)).alloc (by simp) (.cells #[.int .i64 bk, .int .i64 bt, .string ⟨bv.toArray⟩] 30))
  have HRD := Lib.hid (hr.below HB.out)
  go_enter Tryd.func12, Tryd.ntmps12
  go_wp2_with fail
  refine (check_any ⟨ak, at', av⟩ _ HRD.out hla).mono ?_
  rintro e w1 ⟨rfl, hb1⟩
  rw [HCa.out]
  have hX1 := HX2.out.older hb1
  have hY1 := HY.out.older hb1
  rw [show (w.alloc (.cells #[.int .i64 ak, .int .i64 at', .string ⟨av.toArray⟩] 30)).heap.size = w.heap.size + 1 by simp] at hY1
  have HX1 := Lib.hid hX1
  have HY1 := Lib.hid hY1
  have HB1 := Lib.hid (HB.out.trans (hb1.mono (by simp; omega)))
  obtain ⟨⟨c0, c1, c2⟩, _, hz⟩ := hX1.facts
  obtain ⟨⟨d0, d1, d2⟩, _, hzy⟩ := hY1.facts
  have HR1 := Lib.hid (hr.below HB1.out)
  clear hb1 hX1 hY1
  go_wp2_with (go_at_call 10; refine (check_any ⟨bk, bt, bv⟩ _ HR1.out hlb).mono ?_; rintro e w2 ⟨rfl, hb2⟩; rw [HCb.out]; have hX2 := HX1.out.older hb2; have hY2 := HY1.out.older hb2; obtain ⟨⟨e0, e1, e2⟩, _, hz2⟩ := hX2.facts; obtain ⟨⟨f0, f1, f2⟩, _, hzy2⟩ := hY2.facts; have HB2 := Lib.hid (HB1.out.trans (hb2.mono HB1.out.size)); clear c0 c1 c2 d0 d1 d2)
  go_ret
  exact ⟨ret_bool' (by rw [HW.out]), HB2.out⟩

theorem wider_same (ak at' : Int) (av : Bs) (bk bt : Int) (bv : Bs) (w : World) (hr : Ready w) (hla : av.length ≤ 134217728) (hlb : bv.length ≤ 134217728) (ha : checkN ⟨ak, at', av⟩ = 0) (hb : checkN ⟨bk, bt, bv⟩ = 0) (hk : ak = bk) (hv : av = bv) (ht : at' = bt) :
    Calls Tryd.prog 12 #[.agg #[.int .i64 ak, .int .i64 at', .string ⟨av.toArray⟩], .agg #[.int .i64 bk, .int .i64 bt, .string ⟨bv.toArray⟩]] w fun e w' => e = .returned (.bool (widerB ⟨ak, at', av⟩ ⟨bk, bt, bv⟩)) ∧ Below w.heap.size w w' := by
  have HW := Lib.hid (show widerB ⟨ak, at', av⟩ ⟨bk, bt, bv⟩ = true from wider_yes ha hb (by rw [hk, ht, hv]))
  have HCa := Lib.hid (chkV_ok ha)
  have HCb := Lib.hid (chkV_ok hb)
  have ht1 : (at' == bt) = true := beq_iff_eq.2 ht
  have ht2 : (at' != bt) = false := by rw [bne, ht1]; rfl
  have hk1 : (ak == bk) = true := beq_iff_eq.2 hk
  have hk2 : (ak != bk) = false := by rw [bne, hk1]; rfl
  have hv1 : (av == bv) = true := beq_iff_eq.2 hv
  clear ha hb ht hk hv
  have HX := Lib.hid (box3_new w 30 (.int .i64 ak) (.int .i64 at') (.string ⟨av.toArray⟩))
  have HY := Lib.hid (box3_new (w.alloc (.cells #[.int .i64 ak, .int .i64 at', .string ⟨av.toArray⟩] 30)) 30 (.int .i64 bk) (.int .i64 bt) (.string ⟨bv.toArray⟩))
  have HX2 := Lib.hid (HX.out.alloc (.cells #[.int .i64 bk, .int .i64 bt, .string ⟨bv.toArray⟩] 30))
  have HB := Lib.hid (((Below.refl w.heap.size w).alloc (Nat.le_refl _) (.cells #[.int .i64 ak, .int .i64 at', .string ⟨av.toArray⟩] 30)).alloc (by simp) (.cells #[.int .i64 bk, .int .i64 bt, .string ⟨bv.toArray⟩] 30))
  have HRD := Lib.hid (hr.below HB.out)
  go_enter Tryd.func12, Tryd.ntmps12
  go_wp2_with fail
  refine (check_any ⟨ak, at', av⟩ _ HRD.out hla).mono ?_
  rintro e w1 ⟨rfl, hb1⟩
  rw [HCa.out]
  have hX1 := HX2.out.older hb1
  have hY1 := HY.out.older hb1
  rw [show (w.alloc (.cells #[.int .i64 ak, .int .i64 at', .string ⟨av.toArray⟩] 30)).heap.size = w.heap.size + 1 by simp] at hY1
  have HX1 := Lib.hid hX1
  have HY1 := Lib.hid hY1
  have HB1 := Lib.hid (HB.out.trans (hb1.mono (by simp; omega)))
  obtain ⟨⟨c0, c1, c2⟩, _, hz⟩ := hX1.facts
  obtain ⟨⟨d0, d1, d2⟩, _, hzy⟩ := hY1.facts
  have HR1 := Lib.hid (hr.below HB1.out)
  clear hb1 hX1 hY1
  go_wp2_with (go_at_call 10; refine (check_any ⟨bk, bt, bv⟩ _ HR1.out hlb).mono ?_; rintro e w2 ⟨rfl, hb2⟩; rw [HCb.out]; have hX2 := HX1.out.older hb2; have hY2 := HY1.out.older hb2; obtain ⟨⟨e0, e1, e2⟩, _, hz2⟩ := hX2.facts; obtain ⟨⟨f0, f1, f2⟩, _, hzy2⟩ := hY2.facts; have HB2 := Lib.hid (HB1.out.trans (hb2.mono HB1.out.size)); clear c0 c1 c2 d0 d1 d2)
  go_ret
  exact ⟨ret_bool' (by rw [HW.out]), HB2.out⟩

theorem wider_dk_n2 (ak at' : Int) (av : Bs) (bk bt : Int) (bv : Bs) (w : World) (hr : Ready w) (hla : av.length ≤ 134217728) (hlb : bv.length ≤ 134217728) (ha : checkN ⟨ak, at', av⟩ = 0) (hb : checkN ⟨bk, bt, bv⟩ = 0) (ht : at' = bt) (hd : ¬ ak = bk) (h2 : ¬ ak = 2) :
    Calls Tryd.prog 12 #[.agg #[.int .i64 ak, .int .i64 at', .string ⟨av.toArray⟩], .agg #[.int .i64 bk, .int .i64 bt, .string ⟨bv.toArray⟩]] w fun e w' => e = .returned (.bool (widerB ⟨ak, at', av⟩ ⟨bk, bt, bv⟩)) ∧ Below w.heap.size w w' := by
  have HW := Lib.hid (show widerB ⟨ak, at', av⟩ ⟨bk, bt, bv⟩ = false from wider_no4 (fun e => hd (by injection e)) h2)
  have HCa := Lib.hid (chkV_ok ha)
  have HCb := Lib.hid (chkV_ok hb)
  clear ha hb
  have ht1 : (at' == bt) = true := beq_iff_eq.2 ht
  have ht2 : (at' != bt) = false := by rw [bne, ht1]; rfl
  have hd1 : (ak == bk) = false := beq_eq_false_iff_ne.2 hd
  have hd2 : (ak != bk) = true := by rw [bne, hd1]; rfl
  have h21 : (ak == (2 : Int)) = false := beq_eq_false_iff_ne.2 h2
  have h22 : (ak != (2 : Int)) = true := by rw [bne, h21]; rfl
  clear ht hd h2
  have HX := Lib.hid (box3_new w 30 (.int .i64 ak) (.int .i64 at') (.string ⟨av.toArray⟩))
  have HY := Lib.hid (box3_new (w.alloc (.cells #[.int .i64 ak, .int .i64 at', .string ⟨av.toArray⟩] 30)) 30 (.int .i64 bk) (.int .i64 bt) (.string ⟨bv.toArray⟩))
  have HX2 := Lib.hid (HX.out.alloc (.cells #[.int .i64 bk, .int .i64 bt, .string ⟨bv.toArray⟩] 30))
  have HB := Lib.hid (((Below.refl w.heap.size w).alloc (Nat.le_refl _) (.cells #[.int .i64 ak, .int .i64 at', .string ⟨av.toArray⟩] 30)).alloc (by simp) (.cells #[.int .i64 bk, .int .i64 bt, .string ⟨bv.toArray⟩] 30))
  have HRD := Lib.hid (hr.below HB.out)
  go_enter Tryd.func12, Tryd.ntmps12
  go_wp2_with fail
  refine (check_any ⟨ak, at', av⟩ _ HRD.out hla).mono ?_
  rintro e w1 ⟨rfl, hb1⟩
  rw [HCa.out]
  have hX1 := HX2.out.older hb1
  have hY1 := HY.out.older hb1
  rw [show (w.alloc (.cells #[.int .i64 ak, .int .i64 at', .string ⟨av.toArray⟩] 30)).heap.size = w.heap.size + 1 by simp] at hY1
  have HX1 := Lib.hid hX1
  have HY1 := Lib.hid hY1
  have HB1 := Lib.hid (HB.out.trans (hb1.mono (by simp; omega)))
  obtain ⟨⟨c0, c1, c2⟩, _, hz⟩ := hX1.facts
  obtain ⟨⟨d0, d1, d2⟩, _, hzy⟩ := hY1.facts
  have HR1 := Lib.hid (hr.below HB1.out)
  clear hb1 hX1 hY1
  go_wp2_with (go_at_call 10; refine (check_any ⟨bk, bt, bv⟩ _ HR1.out hlb).mono ?_; rintro e w2 ⟨rfl, hb2⟩; rw [HCb.out]; have hX2 := HX1.out.older hb2; have hY2 := HY1.out.older hb2; obtain ⟨⟨e0, e1, e2⟩, _, hz2⟩ := hX2.facts; obtain ⟨⟨f0, f1, f2⟩, _, hzy2⟩ := hY2.facts; have HB2 := Lib.hid (HB1.out.trans (hb2.mono HB1.out.size)); clear c0 c1 c2 d0 d1 d2)
  go_ret
  exact ⟨ret_bool' (by rw [HW.out]), HB2.out⟩

theorem wider_dk_y3 (ak at' : Int) (av : Bs) (bk bt : Int) (bv : Bs) (w : World) (hr : Ready w) (hla : av.length ≤ 134217728) (hlb : bv.length ≤ 134217728) (ha : checkN ⟨ak, at', av⟩ = 0) (hb : checkN ⟨bk, bt, bv⟩ = 0) (ht : at' = bt) (hd : ¬ ak = bk) (h2 : ak = 2) (h3 : bk = 3) :
    Calls Tryd.prog 12 #[.agg #[.int .i64 ak, .int .i64 at', .string ⟨av.toArray⟩], .agg #[.int .i64 bk, .int .i64 bt, .string ⟨bv.toArray⟩]] w fun e w' => e = .returned (.bool (widerB ⟨ak, at', av⟩ ⟨bk, bt, bv⟩)) ∧ Below w.heap.size w w' := by
  have HW := Lib.hid (show widerB ⟨ak, at', av⟩ ⟨bk, bt, bv⟩ = false from wider_no5 (fun e => hd (by injection e)) h3)
  have HCa := Lib.hid (chkV_ok ha)
  have HCb := Lib.hid (chkV_ok hb)
  clear ha hb
  have ht1 : (at' == bt) = true := beq_iff_eq.2 ht
  have ht2 : (at' != bt) = false := by rw [bne, ht1]; rfl
  have hd1 : (ak == bk) = false := beq_eq_false_iff_ne.2 hd
  have hd2 : (ak != bk) = true := by rw [bne, hd1]; rfl
  have h21 : (ak == (2 : Int)) = true := beq_iff_eq.2 h2
  have h22 : (ak != (2 : Int)) = false := by rw [bne, h21]; rfl
  have h31 : (bk == (3 : Int)) = true := beq_iff_eq.2 h3
  have h32 : (bk != (3 : Int)) = false := by rw [bne, h31]; rfl
  clear ht hd h2 h3
  have HX := Lib.hid (box3_new w 30 (.int .i64 ak) (.int .i64 at') (.string ⟨av.toArray⟩))
  have HY := Lib.hid (box3_new (w.alloc (.cells #[.int .i64 ak, .int .i64 at', .string ⟨av.toArray⟩] 30)) 30 (.int .i64 bk) (.int .i64 bt) (.string ⟨bv.toArray⟩))
  have HX2 := Lib.hid (HX.out.alloc (.cells #[.int .i64 bk, .int .i64 bt, .string ⟨bv.toArray⟩] 30))
  have HB := Lib.hid (((Below.refl w.heap.size w).alloc (Nat.le_refl _) (.cells #[.int .i64 ak, .int .i64 at', .string ⟨av.toArray⟩] 30)).alloc (by simp) (.cells #[.int .i64 bk, .int .i64 bt, .string ⟨bv.toArray⟩] 30))
  have HRD := Lib.hid (hr.below HB.out)
  go_enter Tryd.func12, Tryd.ntmps12
  go_wp2_with fail
  refine (check_any ⟨ak, at', av⟩ _ HRD.out hla).mono ?_
  rintro e w1 ⟨rfl, hb1⟩
  rw [HCa.out]
  have hX1 := HX2.out.older hb1
  have hY1 := HY.out.older hb1
  rw [show (w.alloc (.cells #[.int .i64 ak, .int .i64 at', .string ⟨av.toArray⟩] 30)).heap.size = w.heap.size + 1 by simp] at hY1
  have HX1 := Lib.hid hX1
  have HY1 := Lib.hid hY1
  have HB1 := Lib.hid (HB.out.trans (hb1.mono (by simp; omega)))
  obtain ⟨⟨c0, c1, c2⟩, _, hz⟩ := hX1.facts
  obtain ⟨⟨d0, d1, d2⟩, _, hzy⟩ := hY1.facts
  have HR1 := Lib.hid (hr.below HB1.out)
  clear hb1 hX1 hY1
  go_wp2_with (go_at_call 10; refine (check_any ⟨bk, bt, bv⟩ _ HR1.out hlb).mono ?_; rintro e w2 ⟨rfl, hb2⟩; rw [HCb.out]; have hX2 := HX1.out.older hb2; have hY2 := HY1.out.older hb2; obtain ⟨⟨e0, e1, e2⟩, _, hz2⟩ := hX2.facts; obtain ⟨⟨f0, f1, f2⟩, _, hzy2⟩ := hY2.facts; have HB2 := Lib.hid (HB1.out.trans (hb2.mono HB1.out.size)); clear c0 c1 c2 d0 d1 d2)
  go_ret
  exact ⟨ret_bool' (by rw [HW.out]), HB2.out⟩

theorem wider_dk_u (ak at' : Int) (av : Bs) (bk bt : Int) (bv : Bs) (w : World) (hr : Ready w) (hla : av.length ≤ 134217728) (hlb : bv.length ≤ 134217728) (ha : checkN ⟨ak, at', av⟩ = 0) (hb : checkN ⟨bk, bt, bv⟩ = 0) (ht : at' = bt) (hd : ¬ ak = bk) (h2 : ak = 2) (h3 : ¬ bk = 3) :
    Calls Tryd.prog 12 #[.agg #[.int .i64 ak, .int .i64 at', .string ⟨av.toArray⟩], .agg #[.int .i64 bk, .int .i64 bt, .string ⟨bv.toArray⟩]] w fun e w' => e = .returned (.bool (widerB ⟨ak, at', av⟩ ⟨bk, bt, bv⟩)) ∧ Below w.heap.size w w' := by
  have HW := Lib.hid (show widerB ⟨ak, at', av⟩ ⟨bk, bt, bv⟩ = undT bv av from wider_und ha hb ht (fun e => hd (by injection e)) h2 h3)
  have HCa := Lib.hid (chkV_ok ha)
  have HCb := Lib.hid (chkV_ok hb)
  clear ha hb
  have ht1 : (at' == bt) = true := beq_iff_eq.2 ht
  have ht2 : (at' != bt) = false := by rw [bne, ht1]; rfl
  have hd1 : (ak == bk) = false := beq_eq_false_iff_ne.2 hd
  have hd2 : (ak != bk) = true := by rw [bne, hd1]; rfl
  have h21 : (ak == (2 : Int)) = true := beq_iff_eq.2 h2
  have h22 : (ak != (2 : Int)) = false := by rw [bne, h21]; rfl
  have h31 : (bk == (3 : Int)) = false := beq_eq_false_iff_ne.2 h3
  have h32 : (bk != (3 : Int)) = true := by rw [bne, h31]; rfl
  clear ht hd h2 h3
  have HX := Lib.hid (box3_new w 30 (.int .i64 ak) (.int .i64 at') (.string ⟨av.toArray⟩))
  have HY := Lib.hid (box3_new (w.alloc (.cells #[.int .i64 ak, .int .i64 at', .string ⟨av.toArray⟩] 30)) 30 (.int .i64 bk) (.int .i64 bt) (.string ⟨bv.toArray⟩))
  have HX2 := Lib.hid (HX.out.alloc (.cells #[.int .i64 bk, .int .i64 bt, .string ⟨bv.toArray⟩] 30))
  have HB := Lib.hid (((Below.refl w.heap.size w).alloc (Nat.le_refl _) (.cells #[.int .i64 ak, .int .i64 at', .string ⟨av.toArray⟩] 30)).alloc (by simp) (.cells #[.int .i64 bk, .int .i64 bt, .string ⟨bv.toArray⟩] 30))
  have HRD := Lib.hid (hr.below HB.out)
  go_enter Tryd.func12, Tryd.ntmps12
  go_wp2_with fail
  refine (check_any ⟨ak, at', av⟩ _ HRD.out hla).mono ?_
  rintro e w1 ⟨rfl, hb1⟩
  rw [HCa.out]
  have hX1 := HX2.out.older hb1
  have hY1 := HY.out.older hb1
  rw [show (w.alloc (.cells #[.int .i64 ak, .int .i64 at', .string ⟨av.toArray⟩] 30)).heap.size = w.heap.size + 1 by simp] at hY1
  have HX1 := Lib.hid hX1
  have HY1 := Lib.hid hY1
  have HB1 := Lib.hid (HB.out.trans (hb1.mono (by simp; omega)))
  obtain ⟨⟨c0, c1, c2⟩, _, hz⟩ := hX1.facts
  obtain ⟨⟨d0, d1, d2⟩, _, hzy⟩ := hY1.facts
  have HR1 := Lib.hid (hr.below HB1.out)
  clear hb1 hX1 hY1
  go_wp2_with (first | (go_at_call 10; refine (check_any ⟨bk, bt, bv⟩ _ HR1.out hlb).mono ?_; rintro e w2 ⟨rfl, hb2⟩; rw [HCb.out]; have hX2 := HX1.out.older hb2; have hY2 := HY1.out.older hb2; obtain ⟨⟨e0, e1, e2⟩, _, hz2⟩ := hX2.facts; obtain ⟨⟨f0, f1, f2⟩, _, hzy2⟩ := hY2.facts; have HB2 := Lib.hid (HB1.out.trans (hb2.mono HB1.out.size)); clear c0 c1 c2 d0 d1 d2) | (go_at_call 16; refine (und_any bv av _ (hr.below HB2.out) hlb hla).mono ?_; rintro e w3 ⟨rfl, hb3⟩))
  go_ret
  exact ⟨ret_bool' (by rw [HW.out]), HB2.out.trans (hb3.mono HB2.out.size)⟩

theorem wider_dv_n2 (ak at' : Int) (av : Bs) (bk bt : Int) (bv : Bs) (w : World) (hr : Ready w) (hla : av.length ≤ 134217728) (hlb : bv.length ≤ 134217728) (ha : checkN ⟨ak, at', av⟩ = 0) (hb : checkN ⟨bk, bt, bv⟩ = 0) (ht : at' = bt) (hk : ak = bk) (hd : ¬ av = bv) (h2 : ¬ ak = 2) :
    Calls Tryd.prog 12 #[.agg #[.int .i64 ak, .int .i64 at', .string ⟨av.toArray⟩], .agg #[.int .i64 bk, .int .i64 bt, .string ⟨bv.toArray⟩]] w fun e w' => e = .returned (.bool (widerB ⟨ak, at', av⟩ ⟨bk, bt, bv⟩)) ∧ Below w.heap.size w w' := by
  have HW := Lib.hid (show widerB ⟨ak, at', av⟩ ⟨bk, bt, bv⟩ = false from wider_no4 (fun e => hd (by injection e)) h2)
  have HCa := Lib.hid (chkV_ok ha)
  have HCb := Lib.hid (chkV_ok hb)
  clear ha hb
  have ht1 : (at' == bt) = true := beq_iff_eq.2 ht
  have ht2 : (at' != bt) = false := by rw [bne, ht1]; rfl
  have hk1 : (ak == bk) = true := beq_iff_eq.2 hk
  have hk2 : (ak != bk) = false := by rw [bne, hk1]; rfl
  have hd1 : (av == bv) = false := beq_eq_false_iff_ne.2 hd
  have h21 : (ak == (2 : Int)) = false := beq_eq_false_iff_ne.2 h2
  have h22 : (ak != (2 : Int)) = true := by rw [bne, h21]; rfl
  clear ht hd h2 hk
  have HX := Lib.hid (box3_new w 30 (.int .i64 ak) (.int .i64 at') (.string ⟨av.toArray⟩))
  have HY := Lib.hid (box3_new (w.alloc (.cells #[.int .i64 ak, .int .i64 at', .string ⟨av.toArray⟩] 30)) 30 (.int .i64 bk) (.int .i64 bt) (.string ⟨bv.toArray⟩))
  have HX2 := Lib.hid (HX.out.alloc (.cells #[.int .i64 bk, .int .i64 bt, .string ⟨bv.toArray⟩] 30))
  have HB := Lib.hid (((Below.refl w.heap.size w).alloc (Nat.le_refl _) (.cells #[.int .i64 ak, .int .i64 at', .string ⟨av.toArray⟩] 30)).alloc (by simp) (.cells #[.int .i64 bk, .int .i64 bt, .string ⟨bv.toArray⟩] 30))
  have HRD := Lib.hid (hr.below HB.out)
  go_enter Tryd.func12, Tryd.ntmps12
  go_wp2_with fail
  refine (check_any ⟨ak, at', av⟩ _ HRD.out hla).mono ?_
  rintro e w1 ⟨rfl, hb1⟩
  rw [HCa.out]
  have hX1 := HX2.out.older hb1
  have hY1 := HY.out.older hb1
  rw [show (w.alloc (.cells #[.int .i64 ak, .int .i64 at', .string ⟨av.toArray⟩] 30)).heap.size = w.heap.size + 1 by simp] at hY1
  have HX1 := Lib.hid hX1
  have HY1 := Lib.hid hY1
  have HB1 := Lib.hid (HB.out.trans (hb1.mono (by simp; omega)))
  obtain ⟨⟨c0, c1, c2⟩, _, hz⟩ := hX1.facts
  obtain ⟨⟨d0, d1, d2⟩, _, hzy⟩ := hY1.facts
  have HR1 := Lib.hid (hr.below HB1.out)
  clear hb1 hX1 hY1
  go_wp2_with (go_at_call 10; refine (check_any ⟨bk, bt, bv⟩ _ HR1.out hlb).mono ?_; rintro e w2 ⟨rfl, hb2⟩; rw [HCb.out]; have hX2 := HX1.out.older hb2; have hY2 := HY1.out.older hb2; obtain ⟨⟨e0, e1, e2⟩, _, hz2⟩ := hX2.facts; obtain ⟨⟨f0, f1, f2⟩, _, hzy2⟩ := hY2.facts; have HB2 := Lib.hid (HB1.out.trans (hb2.mono HB1.out.size)); clear c0 c1 c2 d0 d1 d2)
  go_ret
  exact ⟨ret_bool' (by rw [HW.out]), HB2.out⟩

theorem wider_dv_u (ak at' : Int) (av : Bs) (bk bt : Int) (bv : Bs) (w : World) (hr : Ready w) (hla : av.length ≤ 134217728) (hlb : bv.length ≤ 134217728) (ha : checkN ⟨ak, at', av⟩ = 0) (hb : checkN ⟨bk, bt, bv⟩ = 0) (ht : at' = bt) (hk : ak = bk) (hd : ¬ av = bv) (h2 : ak = 2) (h3 : ¬ bk = 3) :
    Calls Tryd.prog 12 #[.agg #[.int .i64 ak, .int .i64 at', .string ⟨av.toArray⟩], .agg #[.int .i64 bk, .int .i64 bt, .string ⟨bv.toArray⟩]] w fun e w' => e = .returned (.bool (widerB ⟨ak, at', av⟩ ⟨bk, bt, bv⟩)) ∧ Below w.heap.size w w' := by
  have HW := Lib.hid (show widerB ⟨ak, at', av⟩ ⟨bk, bt, bv⟩ = undT bv av from wider_und ha hb ht (fun e => hd (by injection e)) h2 h3)
  have HCa := Lib.hid (chkV_ok ha)
  have HCb := Lib.hid (chkV_ok hb)
  clear ha hb
  have ht1 : (at' == bt) = true := beq_iff_eq.2 ht
  have ht2 : (at' != bt) = false := by rw [bne, ht1]; rfl
  have hk1 : (ak == bk) = true := beq_iff_eq.2 hk
  have hk2 : (ak != bk) = false := by rw [bne, hk1]; rfl
  have hd1 : (av == bv) = false := beq_eq_false_iff_ne.2 hd
  have h21 : (ak == (2 : Int)) = true := beq_iff_eq.2 h2
  have h22 : (ak != (2 : Int)) = false := by rw [bne, h21]; rfl
  have h31 : (bk == (3 : Int)) = false := beq_eq_false_iff_ne.2 h3
  have h32 : (bk != (3 : Int)) = true := by rw [bne, h31]; rfl
  clear ht hd h2 hk h3
  have HX := Lib.hid (box3_new w 30 (.int .i64 ak) (.int .i64 at') (.string ⟨av.toArray⟩))
  have HY := Lib.hid (box3_new (w.alloc (.cells #[.int .i64 ak, .int .i64 at', .string ⟨av.toArray⟩] 30)) 30 (.int .i64 bk) (.int .i64 bt) (.string ⟨bv.toArray⟩))
  have HX2 := Lib.hid (HX.out.alloc (.cells #[.int .i64 bk, .int .i64 bt, .string ⟨bv.toArray⟩] 30))
  have HB := Lib.hid (((Below.refl w.heap.size w).alloc (Nat.le_refl _) (.cells #[.int .i64 ak, .int .i64 at', .string ⟨av.toArray⟩] 30)).alloc (by simp) (.cells #[.int .i64 bk, .int .i64 bt, .string ⟨bv.toArray⟩] 30))
  have HRD := Lib.hid (hr.below HB.out)
  go_enter Tryd.func12, Tryd.ntmps12
  go_wp2_with fail
  refine (check_any ⟨ak, at', av⟩ _ HRD.out hla).mono ?_
  rintro e w1 ⟨rfl, hb1⟩
  rw [HCa.out]
  have hX1 := HX2.out.older hb1
  have hY1 := HY.out.older hb1
  rw [show (w.alloc (.cells #[.int .i64 ak, .int .i64 at', .string ⟨av.toArray⟩] 30)).heap.size = w.heap.size + 1 by simp] at hY1
  have HX1 := Lib.hid hX1
  have HY1 := Lib.hid hY1
  have HB1 := Lib.hid (HB.out.trans (hb1.mono (by simp; omega)))
  obtain ⟨⟨c0, c1, c2⟩, _, hz⟩ := hX1.facts
  obtain ⟨⟨d0, d1, d2⟩, _, hzy⟩ := hY1.facts
  have HR1 := Lib.hid (hr.below HB1.out)
  clear hb1 hX1 hY1
  go_wp2_with (first | (go_at_call 10; refine (check_any ⟨bk, bt, bv⟩ _ HR1.out hlb).mono ?_; rintro e w2 ⟨rfl, hb2⟩; rw [HCb.out]; have hX2 := HX1.out.older hb2; have hY2 := HY1.out.older hb2; obtain ⟨⟨e0, e1, e2⟩, _, hz2⟩ := hX2.facts; obtain ⟨⟨f0, f1, f2⟩, _, hzy2⟩ := hY2.facts; have HB2 := Lib.hid (HB1.out.trans (hb2.mono HB1.out.size)); clear c0 c1 c2 d0 d1 d2) | (go_at_call 16; refine (und_any bv av _ (hr.below HB2.out) hlb hla).mono ?_; rintro e w3 ⟨rfl, hb3⟩))
  go_ret
  exact ⟨ret_bool' (by rw [HW.out]), HB2.out.trans (hb3.mono HB2.out.size)⟩

theorem wider_any (a b : Pg) (w : World) (hr : Ready w) (hla : a.value.length ≤ 134217728) (hlb : b.value.length ≤ 134217728) :
    Calls Tryd.prog 12 #[pgV a, pgV b] w fun e w' => e = .returned (.bool (widerB a b)) ∧ Below w.heap.size w w' := by
  obtain ⟨ak, at', av⟩ := a
  obtain ⟨bk, bt, bv⟩ := b
  simp only at hla hlb
  by_cases ha : checkN ⟨ak, at', av⟩ = 0
  · by_cases hb : checkN ⟨bk, bt, bv⟩ = 0
    · by_cases ht : at' = bt
      · by_cases hk : ak = bk
        · by_cases hv : av = bv
          · exact wider_same ak at' av bk bt bv w hr hla hlb ha hb hk hv ht
          · by_cases h2 : ak = 2
            · exact wider_dv_u ak at' av bk bt bv w hr hla hlb ha hb ht hk hv h2 (by omega)
            · exact wider_dv_n2 ak at' av bk bt bv w hr hla hlb ha hb ht hk hv h2
        · by_cases h2 : ak = 2
          · by_cases h3 : bk = 3
            · exact wider_dk_y3 ak at' av bk bt bv w hr hla hlb ha hb ht hk h2 h3
            · exact wider_dk_u ak at' av bk bt bv w hr hla hlb ha hb ht hk h2 h3
          · exact wider_dk_n2 ak at' av bk bt bv w hr hla hlb ha hb ht hk h2
      · exact wider_t ak at' av bk bt bv w hr hla hlb ha hb ht
    · exact wider_b ak at' av bk bt bv w hr hla hlb ha hb
  · exact wider_a ak at' av bk bt bv w hr hla hlb ha

end A1
end Go.Proofs.YtbnjajpencahfaaDoor
