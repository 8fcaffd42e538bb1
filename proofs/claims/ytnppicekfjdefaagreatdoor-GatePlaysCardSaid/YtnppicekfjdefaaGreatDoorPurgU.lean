/- Contract: the reference's under, Has, Match (36). Conditions: texts of at most 2^27 bytes. -/
import Derived.Test.YtnppicekfjdefaaGreatDoorPurg5
import Derived.Test.YtnppicekfjdefaaGreatDoorAddrR
namespace Go.Proofs.YtnppicekfjdefaaGreatDoor
open Go.RowKit Pl Ad
attribute [local go_sem] ba_get ba_append ba_extract_end ba_extract_zero ba_extract
set_option maxRecDepth 100000
set_option maxHeartbeats 4000000
set_option linter.unusedVariables false
namespace A1

theorem refUnd_nn (x p : Bs) (w : World) (hlx : x.length ≤ 134217728) (hlp : p.length ≤ 134217728) (hx : readL x = none) (hp : readL p = none) :
    Calls Tryz.prog 50 #[.string ⟨x.toArray⟩, .string ⟨p.toArray⟩] w fun e w' => e = .returned (.bool (undT x p)) ∧ Below w.heap.size w w' := by
  have HU := Lib.hid (show undT x p = false from undT_none1 hx)
  have HX := Lib.hid hx
  have HP := Lib.hid hp
  clear hx hp
  go_enter Tryz.func50, Tryz.ntmps50
  go_wp2_with fail
  refine (refRead_no x _ hlx HX.out).mono ?_
  rintro e w1 ⟨rfl, hb1⟩
  have hBA := Lib.hid (box_new w1 103 (.string ⟨#[]⟩) (.string ⟨#[]⟩) (.string ⟨#[]⟩) (.bool false))
  have hB2 := Lib.hid (hb1.alloc hb1.size (.cells #[.string ⟨#[]⟩, .string ⟨#[]⟩, .string ⟨#[]⟩, .bool false] 103))
  clear hb1
  go_wp2_with fail
  refine (refRead_no p _ hlp HP.out).mono ?_
  rintro e w2 ⟨rfl, hb2⟩
  have hA2 := hBA.out.below hb2 (by simp)
  have HB3 := Lib.hid (hB2.out.trans (hb2.mono hB2.out.size))
  obtain ⟨⟨c0, c1, c2, c3⟩, _, hz⟩ := hA2.facts
  clear hb2
  go_wp2_with fail
  go_ret
  exact ⟨ret_bool' (by rw [HU.out]), HB3.out.alloc HB3.out.size _⟩

theorem refUnd_ns (ph pp pq : Bs) (pb : Bool) (x p : Bs) (w : World) (hlx : x.length ≤ 134217728) (hlp : p.length ≤ 134217728) (hx : readL x = none) (hp : readL p = some ⟨ph, pp, pq, pb⟩) :
    Calls Tryz.prog 50 #[.string ⟨x.toArray⟩, .string ⟨p.toArray⟩] w fun e w' => e = .returned (.bool (undT x p)) ∧ Below w.heap.size w w' := by
  have HU := Lib.hid (show undT x p = false from undT_none1 hx)
  have HX := Lib.hid hx
  have HP := Lib.hid hp
  clear hx hp
  go_enter Tryz.func50, Tryz.ntmps50
  go_wp2_with fail
  refine (refRead_no x _ hlx HX.out).mono ?_
  rintro e w1 ⟨rfl, hb1⟩
  have hBA := Lib.hid (box_new w1 103 (.string ⟨#[]⟩) (.string ⟨#[]⟩) (.string ⟨#[]⟩) (.bool false))
  have hB2 := Lib.hid (hb1.alloc hb1.size (.cells #[.string ⟨#[]⟩, .string ⟨#[]⟩, .string ⟨#[]⟩, .bool false] 103))
  clear hb1
  go_wp2_with fail
  refine (refRead_yes p _ _ hlp HP.out).mono ?_
  rintro e w2 ⟨rfl, hb2⟩
  have hA2 := hBA.out.below hb2 (by simp)
  have HB3 := Lib.hid (hB2.out.trans (hb2.mono hB2.out.size))
  obtain ⟨⟨c0, c1, c2, c3⟩, _, hz⟩ := hA2.facts
  clear hb2
  go_wp2_with fail
  go_ret
  exact ⟨ret_bool' (by rw [HU.out]), HB3.out.alloc HB3.out.size _⟩

theorem refUnd_sn (xh xp xq : Bs) (xb : Bool) (x p : Bs) (w : World) (hlx : x.length ≤ 134217728) (hlp : p.length ≤ 134217728) (hx : readL x = some ⟨xh, xp, xq, xb⟩) (hp : readL p = none) :
    Calls Tryz.prog 50 #[.string ⟨x.toArray⟩, .string ⟨p.toArray⟩] w fun e w' => e = .returned (.bool (undT x p)) ∧ Below w.heap.size w w' := by
  have HU := Lib.hid (show undT x p = false from undT_none2 hx hp)
  have HX := Lib.hid hx
  have HP := Lib.hid hp
  clear hx hp
  go_enter Tryz.func50, Tryz.ntmps50
  go_wp2_with fail
  refine (refRead_yes x _ _ hlx HX.out).mono ?_
  rintro e w1 ⟨rfl, hb1⟩
  have hBA := Lib.hid (box_new w1 103 (.string ⟨xh.toArray⟩) (.string ⟨xp.toArray⟩) (.string ⟨xq.toArray⟩) (.bool xb))
  have hB2 := Lib.hid (hb1.alloc hb1.size (.cells #[.string ⟨xh.toArray⟩, .string ⟨xp.toArray⟩, .string ⟨xq.toArray⟩, .bool xb] 103))
  clear hb1
  go_wp2_with fail
  refine (refRead_no p _ hlp HP.out).mono ?_
  rintro e w2 ⟨rfl, hb2⟩
  have hA2 := hBA.out.below hb2 (by simp)
  have HB3 := Lib.hid (hB2.out.trans (hb2.mono hB2.out.size))
  obtain ⟨⟨c0, c1, c2, c3⟩, _, hz⟩ := hA2.facts
  clear hb2
  go_wp2_with fail
  go_ret
  exact ⟨ret_bool' (by rw [HU.out]), HB3.out.alloc HB3.out.size _⟩

theorem refUnd_ss (xh xp xq : Bs) (xb : Bool) (ph pp pq : Bs) (pb : Bool) (x p : Bs) (w : World) (hlx : x.length ≤ 134217728) (hlp : p.length ≤ 134217728) (hx : readL x = some ⟨xh, xp, xq, xb⟩) (hp : readL p = some ⟨ph, pp, pq, pb⟩) :
    Calls Tryz.prog 50 #[.string ⟨x.toArray⟩, .string ⟨p.toArray⟩] w fun e w' => e = .returned (.bool (undT x p)) ∧ Below w.heap.size w w' := by
  have HU := Lib.hid (show undT x p = (decide (xh = ph) && undB xp pp) from undT_some hx hp)
  have HX := Lib.hid hx
  have HP := Lib.hid hp
  have hl1 : xp.length ≤ 9223372036854775807 := by have := (parse_lens (readL_some hx).1).2.1; simp at this; omega
  have hl2 : pp.length ≤ 9223372036854775807 := by have := (parse_lens (readL_some hp).1).2.1; simp at this; omega
  clear hx hp
  go_enter Tryz.func50, Tryz.ntmps50
  go_wp2_with fail
  refine (refRead_yes x _ _ hlx HX.out).mono ?_
  rintro e w1 ⟨rfl, hb1⟩
  have hBA := Lib.hid (box_new w1 103 (.string ⟨xh.toArray⟩) (.string ⟨xp.toArray⟩) (.string ⟨xq.toArray⟩) (.bool xb))
  have hB2 := Lib.hid (hb1.alloc hb1.size (.cells #[.string ⟨xh.toArray⟩, .string ⟨xp.toArray⟩, .string ⟨xq.toArray⟩, .bool xb] 103))
  clear hb1
  go_wp2_with fail
  refine (refRead_yes p _ _ hlp HP.out).mono ?_
  rintro e w2 ⟨rfl, hb2⟩
  have hA2 := hBA.out.below hb2 (by simp)
  have HB3 := Lib.hid (hB2.out.trans (hb2.mono hB2.out.size))
  obtain ⟨⟨c0, c1, c2, c3⟩, _, hz⟩ := hA2.facts
  clear hb2
  go_wp2_with (go_at_call 61; refine (refUnder_any xh xp xq ph pp pq xb pb _ (by omega) (by omega)).mono ?_; rintro e w3 ⟨rfl, hb3⟩)
  go_ret
  exact ⟨ret_bool' (by rw [HU.out]; rfl), HB3.out.trans (((Below.refl _ _).alloc (Nat.le_refl _) _).trans (hb3.mono (by simp)) |>.mono HB3.out.size)⟩

theorem refUnd_any (x p : Bs) (w : World) (hlx : x.length ≤ 134217728) (hlp : p.length ≤ 134217728) :
    Calls Tryz.prog 50 #[.string ⟨x.toArray⟩, .string ⟨p.toArray⟩] w fun e w' => e = .returned (.bool (undT x p)) ∧ Below w.heap.size w w' := by
  cases hx : readL x with
  | none =>
    cases hp : readL p with
    | none => exact refUnd_nn x p w hlx hlp hx hp
    | some b =>
      obtain ⟨ph, pp, pq, pb⟩ := b
      exact refUnd_ns ph pp pq pb x p w hlx hlp hx hp
  | some a =>
    obtain ⟨xh, xp, xq, xb⟩ := a
    cases hp : readL p with
    | none => exact refUnd_sn xh xp xq xb x p w hlx hlp hx hp
    | some b =>
      obtain ⟨ph, pp, pq, pb⟩ := b
      exact refUnd_ss xh xp xq xb ph pp pq pb x p w hlx hlp hx hp

theorem refHas_some (b o c : Nat) (xs : List Bs) (x : Bs) (w : World) (hv : CellsAt w b o xs) (hn : xs.length ≤ 9223372036854775807) :
    Calls Tryz.prog 51 #[.slice (some ⟨b, o, none⟩) xs.length c, .string ⟨x.toArray⟩] w fun e w' => e = .returned (.bool (decide (x ∈ xs))) ∧ w = w' := by
  have HV := Lib.hid hv
  clear hv
  go_enter Tryz.func51, Tryz.ntmps51
  go_wp2
  go_loop [5] (fun i => ∃ k : Nat, k ≤ xs.length ∧ i = .int .i64 k ∧ Hid (∀ y ∈ xs.take k, ¬ y = x)) (fun i => xs.length - (intOf i).toNat)
  case atStart => exact ⟨0, Nat.zero_le _, rfl, fun y hy => by simp at hy⟩
  case round =>
    obtain ⟨k, hk, rfl, H⟩ := hrel
    by_cases hlt : k < xs.length
    · have hcell := HV.out k xs[k] (by simp [hlt])
      have H2 := Lib.hid (take_snoc hlt)
      have HM := Lib.hid (List.getElem_mem hlt)
      generalize hx : xs[k] = y at H2 HM hcell
      have hd : decide ((k : Int) < (xs.length : Int)) = true := decide_eq_true (by omega)
      by_cases hy : y = x
      · have HC := Lib.hid (show x ∈ xs from hy ▸ HM.out)
        have h1 : (y == x) = true := beq_iff_eq.2 hy
        clear hy
        go_wp2
        go_ret
        exact ⟨ret_bool' (decide_eq_true HC.out).symm, rfl⟩
      · have HN := Lib.hid (show ∀ z ∈ xs.take (k + 1), ¬ z = x by
          rw [H2.out]
          intro z hz
          rcases List.mem_append.1 hz with hz | hz
          · exact H.out z hz
          · rw [List.mem_singleton.1 hz]; exact hy)
        have h1 : (y == x) = false := beq_eq_false_iff_ne.2 hy
        clear hy
        go_wp2
        go_round
        case rel => exact ⟨k + 1, by omega, by go_num, HN.out⟩
        case measure => simp [intOf]; omega
    · have hd : decide ((k : Int) < (xs.length : Int)) = false := decide_eq_false (by omega)
      have HN := Lib.hid (show ¬ x ∈ xs by
        intro hm
        exact H.out x (by rw [List.take_of_length_le (by omega)]; exact hm) rfl)
      go_wp2
      go_ret
      exact ⟨ret_bool' (decide_eq_false HN.out).symm, rfl⟩

theorem refHas_any (v : Value) (xs : List Bs) (x : Bs) (w : World) (hv : StrsV w v xs) (hn : xs.length ≤ 9223372036854775807) :
    Calls Tryz.prog 51 #[v, .string ⟨x.toArray⟩] w fun e w' => e = .returned (.bool (decide (x ∈ xs))) ∧ w = w' := by
  obtain ⟨a0, c0, hv0⟩ := hv.form
  rcases hv with ⟨rfl, _⟩ | ⟨b, o, c, rfl, _, _, hc⟩
  · subst hv0
    go_enter Tryz.func51, Tryz.ntmps51
    go_wp2
    go_loop [5] (fun i => i = .int .i64 0) (fun i => 0)
    case atStart => rfl
    case round =>
      subst hrel
      go_wp2
      go_ret
      exact ⟨ret_bool' (by simp), rfl⟩
  · exact refHas_some b o c xs x w hc hn

theorem refMatch_none0 (k t : Int) (v : Bs) (xt : Int) (xa : Bs) (u : Value) (tags : List Bs) (w : World) (hl : v.length ≤ 134217728) (hlx : xa.length ≤ 134217728) (hn : readL xa = none) (hc : checkN ⟨k, t, v⟩ = 0) :
    Calls Tryz.prog 34 #[.agg #[.int .i64 k, .int .i64 t, .string ⟨v.toArray⟩], .agg #[.int .i64 xt, .string ⟨xa.toArray⟩, u]] w fun e w' => e = .returned (.bool (matchB ⟨k, t, v⟩ ⟨xt, xa, tags⟩)) ∧ Below w.heap.size w w' := by
  have HM := Lib.hid (matchB_false (p := ⟨k, t, v⟩) (x := ⟨xt, xa, tags⟩) (by rintro ⟨h, _⟩; rw [show readL (It.mk xt xa tags).addr = none from hn] at h; cases h))
  have HN := Lib.hid hn
  have HC := Lib.hid hc
  clear hn hc
  have HX := Lib.hid (box3_new w 82 (.int .i64 k) (.int .i64 t) (.string ⟨v.toArray⟩))
  have HY := Lib.hid (box3_new (w.alloc (.cells #[.int .i64 k, .int .i64 t, .string ⟨v.toArray⟩] 82)) 43 (.int .i64 xt) (.string ⟨xa.toArray⟩) u)
  have HX2 := Lib.hid (HX.out.alloc (.cells #[.int .i64 xt, .string ⟨xa.toArray⟩, u] 43))
  have HB := Lib.hid (((Below.refl w.heap.size w).alloc (Nat.le_refl _) (.cells #[.int .i64 k, .int .i64 t, .string ⟨v.toArray⟩] 82)).alloc (by simp) (.cells #[.int .i64 xt, .string ⟨xa.toArray⟩, u] 43))
  go_enter Tryz.func34, Tryz.ntmps34
  go_wp2_with fail
  refine (refRead_no xa _ hlx HN.out).mono ?_
  rintro e w1 ⟨rfl, hb1⟩
  have hX1 := HX2.out.older hb1
  have hY1 := HY.out.older hb1
  rw [show (w.alloc (.cells #[.int .i64 k, .int .i64 t, .string ⟨v.toArray⟩] 82)).heap.size = w.heap.size + 1 by simp] at hY1
  have HB1 := Lib.hid (HB.out.trans (hb1.mono (by simp; omega)))
  have HA1 := Lib.hid (HB1.out.alloc HB1.out.size (.cells #[.string ⟨#[]⟩, .string ⟨#[]⟩, .string ⟨#[]⟩, .bool false] 103))
  have HX1 := Lib.hid (hX1.alloc (.cells #[.string ⟨#[]⟩, .string ⟨#[]⟩, .string ⟨#[]⟩, .bool false] 103))
  have HY1 := Lib.hid (hY1.alloc (.cells #[.string ⟨#[]⟩, .string ⟨#[]⟩, .string ⟨#[]⟩, .bool false] 103))
  obtain ⟨⟨c0, c1, c2⟩, _, hz⟩ := hX1.facts
  obtain ⟨⟨d0, d1, d2⟩, _, hzy⟩ := hY1.facts
  clear hb1 hX1 hY1
  go_wp2_with (go_at_call 39; refine (refCheck_any ⟨k, t, v⟩ _ hl).mono ?_; rintro e w2 ⟨rfl, hb2⟩; rw [HC.out]; have hX2 := HX1.out.older hb2; have hY2 := HY1.out.older hb2; obtain ⟨⟨e0, e1, e2⟩, _, hz2⟩ := hX2.facts; obtain ⟨⟨f0, f1, f2⟩, _, hzy2⟩ := hY2.facts; have HB2 := Lib.hid (HA1.out.trans (hb2.mono HA1.out.size)); clear c0 c1 c2 d0 d1 d2)
  go_ret
  exact ⟨ret_bool' HM.out.symm, HB2.out⟩

theorem refMatch_none1 (k t : Int) (v : Bs) (xt : Int) (xa : Bs) (u : Value) (tags : List Bs) (w : World) (hl : v.length ≤ 134217728) (hlx : xa.length ≤ 134217728) (hn : readL xa = none) (hc : ¬ checkN ⟨k, t, v⟩ = 0) :
    Calls Tryz.prog 34 #[.agg #[.int .i64 k, .int .i64 t, .string ⟨v.toArray⟩], .agg #[.int .i64 xt, .string ⟨xa.toArray⟩, u]] w fun e w' => e = .returned (.bool (matchB ⟨k, t, v⟩ ⟨xt, xa, tags⟩)) ∧ Below w.heap.size w w' := by
  have HM := Lib.hid (matchB_false (p := ⟨k, t, v⟩) (x := ⟨xt, xa, tags⟩) (by rintro ⟨h, _⟩; rw [show readL (It.mk xt xa tags).addr = none from hn] at h; cases h))
  have HN := Lib.hid hn
  have hcn : (checkN ⟨k, t, v⟩ != 0) = true := bne_iff_ne.2 hc
  clear hn hc
  have HX := Lib.hid (box3_new w 82 (.int .i64 k) (.int .i64 t) (.string ⟨v.toArray⟩))
  have HY := Lib.hid (box3_new (w.alloc (.cells #[.int .i64 k, .int .i64 t, .string ⟨v.toArray⟩] 82)) 43 (.int .i64 xt) (.string ⟨xa.toArray⟩) u)
  have HX2 := Lib.hid (HX.out.alloc (.cells #[.int .i64 xt, .string ⟨xa.toArray⟩, u] 43))
  have HB := Lib.hid (((Below.refl w.heap.size w).alloc (Nat.le_refl _) (.cells #[.int .i64 k, .int .i64 t, .string ⟨v.toArray⟩] 82)).alloc (by simp) (.cells #[.int .i64 xt, .string ⟨xa.toArray⟩, u] 43))
  go_enter Tryz.func34, Tryz.ntmps34
  go_wp2_with fail
  refine (refRead_no xa _ hlx HN.out).mono ?_
  rintro e w1 ⟨rfl, hb1⟩
  have hX1 := HX2.out.older hb1
  have hY1 := HY.out.older hb1
  rw [show (w.alloc (.cells #[.int .i64 k, .int .i64 t, .string ⟨v.toArray⟩] 82)).heap.size = w.heap.size + 1 by simp] at hY1
  have HB1 := Lib.hid (HB.out.trans (hb1.mono (by simp; omega)))
  have HA1 := Lib.hid (HB1.out.alloc HB1.out.size (.cells #[.string ⟨#[]⟩, .string ⟨#[]⟩, .string ⟨#[]⟩, .bool false] 103))
  have HX1 := Lib.hid (hX1.alloc (.cells #[.string ⟨#[]⟩, .string ⟨#[]⟩, .string ⟨#[]⟩, .bool false] 103))
  have HY1 := Lib.hid (hY1.alloc (.cells #[.string ⟨#[]⟩, .string ⟨#[]⟩, .string ⟨#[]⟩, .bool false] 103))
  obtain ⟨⟨c0, c1, c2⟩, _, hz⟩ := hX1.facts
  obtain ⟨⟨d0, d1, d2⟩, _, hzy⟩ := hY1.facts
  clear hb1 hX1 hY1
  go_wp2_with (go_at_call 39; refine (refCheck_any ⟨k, t, v⟩ _ hl).mono ?_; rintro e w2 ⟨rfl, hb2⟩; have hX2 := HX1.out.older hb2; have hY2 := HY1.out.older hb2; obtain ⟨⟨e0, e1, e2⟩, _, hz2⟩ := hX2.facts; obtain ⟨⟨f0, f1, f2⟩, _, hzy2⟩ := hY2.facts; have HB2 := Lib.hid (HA1.out.trans (hb2.mono HA1.out.size)); clear c0 c1 c2 d0 d1 d2)
  go_ret
  exact ⟨ret_bool' HM.out.symm, HB2.out⟩

theorem refMatch_bad1 (k : Int) (t : Int) (v : Bs) (xt : Int) (xa : Bs) (u : Value) (tags : List Bs) (w : World) (hl : v.length ≤ 134217728) (hlx : xa.length ≤ 134217728) (ah ap aq : Bs) (ab : Bool) (hn : readL xa = some ⟨ah, ap, aq, ab⟩) (hc : ¬ checkN ⟨k, t, v⟩ = 0) :
    Calls Tryz.prog 34 #[.agg #[.int .i64 k, .int .i64 t, .string ⟨v.toArray⟩], .agg #[.int .i64 xt, .string ⟨xa.toArray⟩, u]] w fun e w' => e = .returned (.bool (matchB ⟨k, t, v⟩ ⟨xt, xa, tags⟩)) ∧ Below w.heap.size w w' := by
  have hS : (readL (It.mk xt xa tags).addr).isSome = true := by show (readL xa).isSome = true; rw [hn]; rfl
  have HM := Lib.hid (matchB_false (p := ⟨k, t, v⟩) (x := ⟨xt, xa, tags⟩) (by rintro ⟨_, h, _⟩; exact hc h))
  have hcn : (checkN ⟨k, t, v⟩ != 0) = true := bne_iff_ne.2 hc
  clear hc
  have HN := Lib.hid hn
  clear hn hS
  have HX := Lib.hid (box3_new w 82 (.int .i64 k) (.int .i64 t) (.string ⟨v.toArray⟩))
  have HY := Lib.hid (box3_new (w.alloc (.cells #[.int .i64 k, .int .i64 t, .string ⟨v.toArray⟩] 82)) 43 (.int .i64 xt) (.string ⟨xa.toArray⟩) u)
  have HX2 := Lib.hid (HX.out.alloc (.cells #[.int .i64 xt, .string ⟨xa.toArray⟩, u] 43))
  have HB := Lib.hid (((Below.refl w.heap.size w).alloc (Nat.le_refl _) (.cells #[.int .i64 k, .int .i64 t, .string ⟨v.toArray⟩] 82)).alloc (by simp) (.cells #[.int .i64 xt, .string ⟨xa.toArray⟩, u] 43))
  go_enter Tryz.func34, Tryz.ntmps34
  go_wp2_with fail
  refine (refRead_yes xa _ _ hlx HN.out).mono ?_
  rintro e w1 ⟨rfl, hb1⟩
  have hX1 := HX2.out.older hb1
  have hY1 := HY.out.older hb1
  rw [show (w.alloc (.cells #[.int .i64 k, .int .i64 t, .string ⟨v.toArray⟩] 82)).heap.size = w.heap.size + 1 by simp] at hY1
  have HB1 := Lib.hid (HB.out.trans (hb1.mono (by simp; omega)))
  have HA1 := Lib.hid (HB1.out.alloc HB1.out.size (.cells #[.string ⟨ah.toArray⟩, .string ⟨ap.toArray⟩, .string ⟨aq.toArray⟩, .bool ab] 103))
  have HX1 := Lib.hid (hX1.alloc (.cells #[.string ⟨ah.toArray⟩, .string ⟨ap.toArray⟩, .string ⟨aq.toArray⟩, .bool ab] 103))
  have HY1 := Lib.hid (hY1.alloc (.cells #[.string ⟨ah.toArray⟩, .string ⟨ap.toArray⟩, .string ⟨aq.toArray⟩, .bool ab] 103))
  obtain ⟨⟨c0, c1, c2⟩, _, hz⟩ := hX1.facts
  obtain ⟨⟨d0, d1, d2⟩, _, hzy⟩ := hY1.facts
  clear hb1 hX1 hY1
  go_wp2_with (go_at_call 39; refine (refCheck_any ⟨k, t, v⟩ _ hl).mono ?_; rintro e w2 ⟨rfl, hb2⟩; have hX2 := HX1.out.older hb2; have hY2 := HY1.out.older hb2; obtain ⟨⟨e0, e1, e2⟩, _, hz2⟩ := hX2.facts; obtain ⟨⟨f0, f1, f2⟩, _, hzy2⟩ := hY2.facts; have HB2 := Lib.hid (HA1.out.trans (hb2.mono HA1.out.size)); clear c0 c1 c2 d0 d1 d2)
  go_ret
  exact ⟨ret_bool' HM.out.symm, HB2.out⟩

theorem refMatch_bad2 (k : Int) (t : Int) (v : Bs) (xt : Int) (xa : Bs) (u : Value) (tags : List Bs) (w : World) (hl : v.length ≤ 134217728) (hlx : xa.length ≤ 134217728) (ah ap aq : Bs) (ab : Bool) (hn : readL xa = some ⟨ah, ap, aq, ab⟩) (hc : checkN ⟨k, t, v⟩ = 0) (hne : ¬ t = xt) :
    Calls Tryz.prog 34 #[.agg #[.int .i64 k, .int .i64 t, .string ⟨v.toArray⟩], .agg #[.int .i64 xt, .string ⟨xa.toArray⟩, u]] w fun e w' => e = .returned (.bool (matchB ⟨k, t, v⟩ ⟨xt, xa, tags⟩)) ∧ Below w.heap.size w w' := by
  have hS : (readL (It.mk xt xa tags).addr).isSome = true := by show (readL xa).isSome = true; rw [hn]; rfl
  have HM := Lib.hid (matchB_false (p := ⟨k, t, v⟩) (x := ⟨xt, xa, tags⟩) (by rintro ⟨_, _, h⟩; exact hne h))
  have HC := Lib.hid (hc)
  have htt : (t == xt) = false := beq_eq_false_iff_ne.2 hne
  have htt2 : (t != xt) = true := by rw [bne, htt]; rfl
  clear hc hne
  have HN := Lib.hid hn
  clear hn hS
  have HX := Lib.hid (box3_new w 82 (.int .i64 k) (.int .i64 t) (.string ⟨v.toArray⟩))
  have HY := Lib.hid (box3_new (w.alloc (.cells #[.int .i64 k, .int .i64 t, .string ⟨v.toArray⟩] 82)) 43 (.int .i64 xt) (.string ⟨xa.toArray⟩) u)
  have HX2 := Lib.hid (HX.out.alloc (.cells #[.int .i64 xt, .string ⟨xa.toArray⟩, u] 43))
  have HB := Lib.hid (((Below.refl w.heap.size w).alloc (Nat.le_refl _) (.cells #[.int .i64 k, .int .i64 t, .string ⟨v.toArray⟩] 82)).alloc (by simp) (.cells #[.int .i64 xt, .string ⟨xa.toArray⟩, u] 43))
  go_enter Tryz.func34, Tryz.ntmps34
  go_wp2_with fail
  refine (refRead_yes xa _ _ hlx HN.out).mono ?_
  rintro e w1 ⟨rfl, hb1⟩
  have hX1 := HX2.out.older hb1
  have hY1 := HY.out.older hb1
  rw [show (w.alloc (.cells #[.int .i64 k, .int .i64 t, .string ⟨v.toArray⟩] 82)).heap.size = w.heap.size + 1 by simp] at hY1
  have HB1 := Lib.hid (HB.out.trans (hb1.mono (by simp; omega)))
  have HA1 := Lib.hid (HB1.out.alloc HB1.out.size (.cells #[.string ⟨ah.toArray⟩, .string ⟨ap.toArray⟩, .string ⟨aq.toArray⟩, .bool ab] 103))
  have HX1 := Lib.hid (hX1.alloc (.cells #[.string ⟨ah.toArray⟩, .string ⟨ap.toArray⟩, .string ⟨aq.toArray⟩, .bool ab] 103))
  have HY1 := Lib.hid (hY1.alloc (.cells #[.string ⟨ah.toArray⟩, .string ⟨ap.toArray⟩, .string ⟨aq.toArray⟩, .bool ab] 103))
  obtain ⟨⟨c0, c1, c2⟩, _, hz⟩ := hX1.facts
  obtain ⟨⟨d0, d1, d2⟩, _, hzy⟩ := hY1.facts
  clear hb1 hX1 hY1
  go_wp2_with (go_at_call 39; refine (refCheck_any ⟨k, t, v⟩ _ hl).mono ?_; rintro e w2 ⟨rfl, hb2⟩; rw [HC.out]; have hX2 := HX1.out.older hb2; have hY2 := HY1.out.older hb2; obtain ⟨⟨e0, e1, e2⟩, _, hz2⟩ := hX2.facts; obtain ⟨⟨f0, f1, f2⟩, _, hzy2⟩ := hY2.facts; have HB2 := Lib.hid (HA1.out.trans (hb2.mono HA1.out.size)); clear c0 c1 c2 d0 d1 d2)
  go_ret
  exact ⟨ret_bool' HM.out.symm, HB2.out⟩

theorem refMatch_exact (t : Int) (v : Bs) (xt : Int) (xa : Bs) (u : Value) (tags : List Bs) (w : World) (hl : v.length ≤ 134217728) (hlx : xa.length ≤ 134217728) (ah ap aq : Bs) (ab : Bool) (hn : readL xa = some ⟨ah, ap, aq, ab⟩) (hc : checkN ⟨1, t, v⟩ = 0) (ht : t = xt) (htags : StrsV w u tags) (htl : tags.length ≤ 9223372036854775807) :
    Calls Tryz.prog 34 #[.agg #[.int .i64 1, .int .i64 t, .string ⟨v.toArray⟩], .agg #[.int .i64 xt, .string ⟨xa.toArray⟩, u]] w fun e w' => e = .returned (.bool (matchB ⟨1, t, v⟩ ⟨xt, xa, tags⟩)) ∧ Below w.heap.size w w' := by
  have hS : (readL (It.mk xt xa tags).addr).isSome = true := by show (readL xa).isSome = true; rw [hn]; rfl
  have HM := Lib.hid (matchB_when (p := ⟨1, t, v⟩) (x := ⟨xt, xa, tags⟩) hS hc ht)
  have HC := Lib.hid (hc)
  have htt : (t == xt) = true := beq_iff_eq.2 ht
  have htt2 : (t != xt) = false := by rw [bne, htt]; rfl
  have HT := Lib.hid htags
  clear hc ht htags
  have HN := Lib.hid hn
  clear hn hS
  have HX := Lib.hid (box3_new w 82 (.int .i64 1) (.int .i64 t) (.string ⟨v.toArray⟩))
  have HY := Lib.hid (box3_new (w.alloc (.cells #[.int .i64 1, .int .i64 t, .string ⟨v.toArray⟩] 82)) 43 (.int .i64 xt) (.string ⟨xa.toArray⟩) u)
  have HX2 := Lib.hid (HX.out.alloc (.cells #[.int .i64 xt, .string ⟨xa.toArray⟩, u] 43))
  have HB := Lib.hid (((Below.refl w.heap.size w).alloc (Nat.le_refl _) (.cells #[.int .i64 1, .int .i64 t, .string ⟨v.toArray⟩] 82)).alloc (by simp) (.cells #[.int .i64 xt, .string ⟨xa.toArray⟩, u] 43))
  go_enter Tryz.func34, Tryz.ntmps34
  go_wp2_with fail
  refine (refRead_yes xa _ _ hlx HN.out).mono ?_
  rintro e w1 ⟨rfl, hb1⟩
  have hX1 := HX2.out.older hb1
  have hY1 := HY.out.older hb1
  rw [show (w.alloc (.cells #[.int .i64 1, .int .i64 t, .string ⟨v.toArray⟩] 82)).heap.size = w.heap.size + 1 by simp] at hY1
  have HB1 := Lib.hid (HB.out.trans (hb1.mono (by simp; omega)))
  have HA1 := Lib.hid (HB1.out.alloc HB1.out.size (.cells #[.string ⟨ah.toArray⟩, .string ⟨ap.toArray⟩, .string ⟨aq.toArray⟩, .bool ab] 103))
  have HX1 := Lib.hid (hX1.alloc (.cells #[.string ⟨ah.toArray⟩, .string ⟨ap.toArray⟩, .string ⟨aq.toArray⟩, .bool ab] 103))
  have HY1 := Lib.hid (hY1.alloc (.cells #[.string ⟨ah.toArray⟩, .string ⟨ap.toArray⟩, .string ⟨aq.toArray⟩, .bool ab] 103))
  obtain ⟨⟨c0, c1, c2⟩, _, hz⟩ := hX1.facts
  obtain ⟨⟨d0, d1, d2⟩, _, hzy⟩ := hY1.facts
  clear hb1 hX1 hY1
  go_wp2_with (first | (go_at_call 39; refine (refCheck_any ⟨1, t, v⟩ _ hl).mono ?_; rintro e w2 ⟨rfl, hb2⟩; rw [HC.out]; have hX2 := HX1.out.older hb2; have hY2 := HY1.out.older hb2; obtain ⟨⟨e0, e1, e2⟩, _, hz2⟩ := hX2.facts; obtain ⟨⟨f0, f1, f2⟩, _, hzy2⟩ := hY2.facts; have HB2 := Lib.hid (HA1.out.trans (hb2.mono HA1.out.size)); clear c0 c1 c2 d0 d1 d2))
  go_ret
  exact ⟨ret_bool' (by rw [HM.out, Bool.eq_iff_iff]; simp), HB2.out⟩

theorem refMatch_prefix (t : Int) (v : Bs) (xt : Int) (xa : Bs) (u : Value) (tags : List Bs) (w : World) (hl : v.length ≤ 134217728) (hlx : xa.length ≤ 134217728) (ah ap aq : Bs) (ab : Bool) (hn : readL xa = some ⟨ah, ap, aq, ab⟩) (hc : checkN ⟨2, t, v⟩ = 0) (ht : t = xt) (htags : StrsV w u tags) (htl : tags.length ≤ 9223372036854775807) :
    Calls Tryz.prog 34 #[.agg #[.int .i64 2, .int .i64 t, .string ⟨v.toArray⟩], .agg #[.int .i64 xt, .string ⟨xa.toArray⟩, u]] w fun e w' => e = .returned (.bool (matchB ⟨2, t, v⟩ ⟨xt, xa, tags⟩)) ∧ Below w.heap.size w w' := by
  have hS : (readL (It.mk xt xa tags).addr).isSome = true := by show (readL xa).isSome = true; rw [hn]; rfl
  have HM := Lib.hid (matchB_when (p := ⟨2, t, v⟩) (x := ⟨xt, xa, tags⟩) hS hc ht)
  have HC := Lib.hid (hc)
  have htt : (t == xt) = true := beq_iff_eq.2 ht
  have htt2 : (t != xt) = false := by rw [bne, htt]; rfl
  have HT := Lib.hid htags
  clear hc ht htags
  have HN := Lib.hid hn
  clear hn hS
  have HX := Lib.hid (box3_new w 82 (.int .i64 2) (.int .i64 t) (.string ⟨v.toArray⟩))
  have HY := Lib.hid (box3_new (w.alloc (.cells #[.int .i64 2, .int .i64 t, .string ⟨v.toArray⟩] 82)) 43 (.int .i64 xt) (.string ⟨xa.toArray⟩) u)
  have HX2 := Lib.hid (HX.out.alloc (.cells #[.int .i64 xt, .string ⟨xa.toArray⟩, u] 43))
  have HB := Lib.hid (((Below.refl w.heap.size w).alloc (Nat.le_refl _) (.cells #[.int .i64 2, .int .i64 t, .string ⟨v.toArray⟩] 82)).alloc (by simp) (.cells #[.int .i64 xt, .string ⟨xa.toArray⟩, u] 43))
  go_enter Tryz.func34, Tryz.ntmps34
  go_wp2_with fail
  refine (refRead_yes xa _ _ hlx HN.out).mono ?_
  rintro e w1 ⟨rfl, hb1⟩
  have hX1 := HX2.out.older hb1
  have hY1 := HY.out.older hb1
  rw [show (w.alloc (.cells #[.int .i64 2, .int .i64 t, .string ⟨v.toArray⟩] 82)).heap.size = w.heap.size + 1 by simp] at hY1
  have HB1 := Lib.hid (HB.out.trans (hb1.mono (by simp; omega)))
  have HA1 := Lib.hid (HB1.out.alloc HB1.out.size (.cells #[.string ⟨ah.toArray⟩, .string ⟨ap.toArray⟩, .string ⟨aq.toArray⟩, .bool ab] 103))
  have HX1 := Lib.hid (hX1.alloc (.cells #[.string ⟨ah.toArray⟩, .string ⟨ap.toArray⟩, .string ⟨aq.toArray⟩, .bool ab] 103))
  have HY1 := Lib.hid (hY1.alloc (.cells #[.string ⟨ah.toArray⟩, .string ⟨ap.toArray⟩, .string ⟨aq.toArray⟩, .bool ab] 103))
  obtain ⟨⟨c0, c1, c2⟩, _, hz⟩ := hX1.facts
  obtain ⟨⟨d0, d1, d2⟩, _, hzy⟩ := hY1.facts
  clear hb1 hX1 hY1
  go_wp2_with (first | (go_at_call 39; refine (refCheck_any ⟨2, t, v⟩ _ hl).mono ?_; rintro e w2 ⟨rfl, hb2⟩; rw [HC.out]; have hX2 := HX1.out.older hb2; have hY2 := HY1.out.older hb2; obtain ⟨⟨e0, e1, e2⟩, _, hz2⟩ := hX2.facts; obtain ⟨⟨f0, f1, f2⟩, _, hzy2⟩ := hY2.facts; have HB2 := Lib.hid (HA1.out.trans (hb2.mono HA1.out.size)); clear c0 c1 c2 d0 d1 d2) | (go_at_call 50; refine (refUnd_any xa v _ hlx hl).mono ?_; rintro e w3 ⟨rfl, hb3⟩))
  go_ret
  exact ⟨ret_bool' (by rw [HM.out, Bool.eq_iff_iff]; simp), HB2.out.trans (hb3.mono HB2.out.size)⟩

theorem refMatch_tagged (t : Int) (v : Bs) (xt : Int) (xa : Bs) (u : Value) (tags : List Bs) (w : World) (hl : v.length ≤ 134217728) (hlx : xa.length ≤ 134217728) (ah ap aq : Bs) (ab : Bool) (hn : readL xa = some ⟨ah, ap, aq, ab⟩) (hc : checkN ⟨3, t, v⟩ = 0) (ht : t = xt) (htags : StrsV w u tags) (htl : tags.length ≤ 9223372036854775807) :
    Calls Tryz.prog 34 #[.agg #[.int .i64 3, .int .i64 t, .string ⟨v.toArray⟩], .agg #[.int .i64 xt, .string ⟨xa.toArray⟩, u]] w fun e w' => e = .returned (.bool (matchB ⟨3, t, v⟩ ⟨xt, xa, tags⟩)) ∧ Below w.heap.size w w' := by
  have hS : (readL (It.mk xt xa tags).addr).isSome = true := by show (readL xa).isSome = true; rw [hn]; rfl
  have HM := Lib.hid (matchB_when (p := ⟨3, t, v⟩) (x := ⟨xt, xa, tags⟩) hS hc ht)
  have HC := Lib.hid (hc)
  have htt : (t == xt) = true := beq_iff_eq.2 ht
  have htt2 : (t != xt) = false := by rw [bne, htt]; rfl
  have HT := Lib.hid htags
  clear hc ht htags
  have HN := Lib.hid hn
  clear hn hS
  have HX := Lib.hid (box3_new w 82 (.int .i64 3) (.int .i64 t) (.string ⟨v.toArray⟩))
  have HY := Lib.hid (box3_new (w.alloc (.cells #[.int .i64 3, .int .i64 t, .string ⟨v.toArray⟩] 82)) 43 (.int .i64 xt) (.string ⟨xa.toArray⟩) u)
  have HX2 := Lib.hid (HX.out.alloc (.cells #[.int .i64 xt, .string ⟨xa.toArray⟩, u] 43))
  have HB := Lib.hid (((Below.refl w.heap.size w).alloc (Nat.le_refl _) (.cells #[.int .i64 3, .int .i64 t, .string ⟨v.toArray⟩] 82)).alloc (by simp) (.cells #[.int .i64 xt, .string ⟨xa.toArray⟩, u] 43))
  go_enter Tryz.func34, Tryz.ntmps34
  go_wp2_with fail
  refine (refRead_yes xa _ _ hlx HN.out).mono ?_
  rintro e w1 ⟨rfl, hb1⟩
  have hX1 := HX2.out.older hb1
  have hY1 := HY.out.older hb1
  rw [show (w.alloc (.cells #[.int .i64 3, .int .i64 t, .string ⟨v.toArray⟩] 82)).heap.size = w.heap.size + 1 by simp] at hY1
  have HB1 := Lib.hid (HB.out.trans (hb1.mono (by simp; omega)))
  have HA1 := Lib.hid (HB1.out.alloc HB1.out.size (.cells #[.string ⟨ah.toArray⟩, .string ⟨ap.toArray⟩, .string ⟨aq.toArray⟩, .bool ab] 103))
  have HX1 := Lib.hid (hX1.alloc (.cells #[.string ⟨ah.toArray⟩, .string ⟨ap.toArray⟩, .string ⟨aq.toArray⟩, .bool ab] 103))
  have HY1 := Lib.hid (hY1.alloc (.cells #[.string ⟨ah.toArray⟩, .string ⟨ap.toArray⟩, .string ⟨aq.toArray⟩, .bool ab] 103))
  obtain ⟨⟨c0, c1, c2⟩, _, hz⟩ := hX1.facts
  obtain ⟨⟨d0, d1, d2⟩, _, hzy⟩ := hY1.facts
  clear hb1 hX1 hY1
  go_wp2_with (first | (go_at_call 39; refine (refCheck_any ⟨3, t, v⟩ _ hl).mono ?_; rintro e w2 ⟨rfl, hb2⟩; rw [HC.out]; have hX2 := HX1.out.older hb2; have hY2 := HY1.out.older hb2; obtain ⟨⟨e0, e1, e2⟩, _, hz2⟩ := hX2.facts; obtain ⟨⟨f0, f1, f2⟩, _, hzy2⟩ := hY2.facts; have HB2 := Lib.hid (HA1.out.trans (hb2.mono HA1.out.size)); clear c0 c1 c2 d0 d1 d2) | (go_at_call 51; refine (refHas_any u tags v _ (HT.out.below HB2.out) htl).mono ?_; rintro e w3 ⟨rfl, rfl⟩))
  go_ret
  exact ⟨ret_bool' (by rw [HM.out, Bool.eq_iff_iff]; simp), HB2.out⟩

theorem refMatch_any (p : Pg) (x : It) (u : Value) (w : World) (hl : p.value.length ≤ 134217728) (hlx : x.addr.length ≤ 134217728) (htags : StrsV w u x.tags) (htl : x.tags.length ≤ 9223372036854775807) :
    Calls Tryz.prog 34 #[pgV p, itV x.tenant x.addr u] w fun e w' => e = .returned (.bool (matchB p x)) ∧ Below w.heap.size w w' := by
  obtain ⟨k, t, v⟩ := p
  obtain ⟨xt, xa, tags⟩ := x
  simp only at hl hlx htags htl
  cases hn : readL xa with
  | none =>
    by_cases hc : checkN ⟨k, t, v⟩ = 0
    · exact refMatch_none0 k t v xt xa u tags w hl hlx hn hc
    · exact refMatch_none1 k t v xt xa u tags w hl hlx hn hc
  | some a =>
    obtain ⟨ah, ap, aq, ab⟩ := a
    by_cases hc : checkN ⟨k, t, v⟩ = 0
    · by_cases ht : t = xt
      · have hk := (checkN_ok hc).1
        have ck : k = 1 ∨ k = 2 ∨ k = 3 := by simp only at hk; omega
        rcases ck with rfl | rfl | rfl
        · exact refMatch_exact t v xt xa u tags w hl hlx ah ap aq ab hn hc ht htags htl
        · exact refMatch_prefix t v xt xa u tags w hl hlx ah ap aq ab hn hc ht htags htl
        · exact refMatch_tagged t v xt xa u tags w hl hlx ah ap aq ab hn hc ht htags htl
      · exact refMatch_bad2 k t v xt xa u tags w hl hlx ah ap aq ab hn hc ht
    · exact refMatch_bad1 k t v xt xa u tags w hl hlx ah ap aq ab hn hc
end A1
end Go.Proofs.YtnppicekfjdefaaGreatDoor
