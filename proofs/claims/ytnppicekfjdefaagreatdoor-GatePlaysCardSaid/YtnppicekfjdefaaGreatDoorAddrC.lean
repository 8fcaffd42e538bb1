/- Contract: the reference's Parse. Conditions: texts of at most 2^29 bytes. The error codes of Parse, in the words of its contracts. No condition. -/
import Derived.Test.YtnppicekfjdefaaGreatDoorAddr8
import Derived.Test.YtnppicekfjdefaaGreatDoorAddr1
import Derived.Deep.RegionLaw
section
namespace Go.Proofs.YtnppicekfjdefaaGreatDoor
open Go.RowKit Pl Ad
attribute [local go_sem] ba_get conv_one conv_one_drewN ba_append ba_extract
set_option maxRecDepth 100000
set_option maxHeartbeats 4000000
set_option linter.unusedVariables false
namespace A1
attribute [local go_sem] optS_some
/-- What the reference's Parse returns: the address' value, the number of the error. -/
def codeOf : Except Int Adr → Int
  | .ok _ => 0
  | .error n => n

theorem Box.set1 {w : World} {R T : Nat} {v0 v1 v2 v3 : Value} (h : Box w R T v0 v1 v2 v3) (u : Value) : Box (w.setCell ⟨R, 1, none⟩ u) R T v0 u v2 v3 := by
  unfold Box at h ⊢
  simp [World.setCell, Array.getElem?_modify, h]
theorem Box.set2 {w : World} {R T : Nat} {v0 v1 v2 v3 : Value} (h : Box w R T v0 v1 v2 v3) (u : Value) : Box (w.setCell ⟨R, 2, none⟩ u) R T v0 v1 u v3 := by
  unfold Box at h ⊢
  simp [World.setCell, Array.getElem?_modify, h]
theorem pathC {h q : Bs} {xs : List Bs} {has : Bool} {r : Except Int Adr} (hr : r = match dotsL xs [] with
        | none => .error 27
        | some left => if (adText h (slashed left) q has).length > 1024 then .error 5 else .ok ⟨h, slashed left, q, has⟩) :
    (dotsR xs = none → r = .error 27) ∧ (∀ l, dotsR xs = some l → ((adText h l q has).length > 1024 → r = .error 5) ∧ (¬ (adText h l q has).length > 1024 → r = .ok ⟨h, l, q, has⟩)) := by
  subst hr
  unfold dotsR
  cases dotsL xs [] with
  | none => exact ⟨fun _ => rfl, fun l hl => (by cases hl)⟩
  | some left =>
    refine ⟨fun x => (by cases x), fun l hl => ?_⟩
    cases hl
    exact ⟨fun x => if_pos x, fun x => if_neg x⟩

theorem cutAt_forms (t : Bs) : cutAt 63 t = (t, [], false) ∧ 63 ∉ t ∨ ∃ p q, t = p ++ 63 :: q ∧ 63 ∉ p ∧ cutAt 63 t = (p, q, true) := by
  by_cases h : (63 : UInt8) ∈ t
  · rcases indexByte_one 63 t with ⟨_, h2⟩ | ⟨p, q, rfl, h2, _⟩
    · exact absurd h h2
    · exact .inr ⟨p, q, rfl, h2, cutAt_hit 63 q p h2⟩
  · exact .inl ⟨cutAt_miss 63 t h, h⟩

theorem refParse_host (h t : Bs) (w : World) (hh : h.length ≤ 536870912) (hk : hostOk h = false) :
    Calls Tryz.prog 59 #[.string ⟨h.toArray⟩, .string ⟨t.toArray⟩] w fun e w' => e = .returned (.tuple #[ad0, .int .i64 8]) ∧ Below w.heap.size w w' := by
  have HK := Lib.hid hk
  clear hk
  have HBX := Lib.hid (box_new w 103 (.string ⟨#[]⟩) (.string ⟨#[]⟩) (.string ⟨#[]⟩) (.bool false))
  have HBZ := Lib.hid ((Below.refl w.heap.size w).alloc (Nat.le_refl _) (.cells #[.string ⟨#[]⟩, .string ⟨#[]⟩, .string ⟨#[]⟩, .bool false] 103))
  go_enter Tryz.func59, Tryz.ntmps59
  go_wp2_with fail
  refine (refHost_any h _ (by omega)).mono ?_
  rintro e w1 ⟨rfl, hb1⟩
  rw [HK.out]
  obtain ⟨⟨c0, c1, c2, c3⟩, ⟨f0, f1, f2, f3⟩, hsz⟩ := (HBX.out.below hb1 (by simp)).facts
  have hb := HBZ.out.trans (hb1.mono (by simp))
  go_wp2_with fail
  refine bodyPost_ret (v := .tuple #[ad0, .int .i64 8]) (by simp [results, Tryz.results59, go_sem, c0, c1, c2, c3]) rfl ⟨rfl, ?_⟩
  exact Box.set hb (Nat.le_refl _) _ _ _ _

theorem dots_len (u l : Bs) (h : (dotsL (splitOn 47 u) []).map slashed = some l) (hu : u.length ≤ 536870912) : l.length ≤ 536870913 := by
  cases hd : dotsL (splitOn 47 u) [] with
  | none => rw [hd] at h; cases h
  | some left =>
    rw [hd] at h
    cases h
    have := dotsL_room (splitOn 47 u) [] left hd
    rw [room_nil, room_splitOn] at this
    unfold room at this
    omega

theorem refParse_plain (h t : Bs) (w : World) (hh : h.length ≤ 536870912) (ht : (t).length ≤ 536870912) (hk : hostOk h = true) (hc : 63 ∉ t) (r : Except Int Adr) (hpar : parse h (t) = r) :
    Calls Tryz.prog 59 #[.string ⟨h.toArray⟩, .string ⟨(t).toArray⟩] w fun e w' => e = .returned (.tuple #[parseV r, .int .i64 (codeOf r)]) ∧ Below w.heap.size w w' := by
  have HW := Lib.hid (parse_ways h (t))
  have HH := Lib.hid (hostS_yes h hk)
  have HK := Lib.hid hk
  have HPAR := Lib.hid hpar
  have hlh : (lower h).length ≤ 536870912 := by rw [lower_len]; exact hh
  clear hk hpar
  have HCUT := Lib.hid (cutAt_miss 63 t hc)
  have HNI := Lib.hid hc
  clear hc
  have HBX := Lib.hid (box_new w 103 (.string ⟨#[]⟩) (.string ⟨#[]⟩) (.string ⟨#[]⟩) (.bool false))
  have HBZ := Lib.hid ((Below.refl w.heap.size w).alloc (Nat.le_refl _) (.cells #[.string ⟨#[]⟩, .string ⟨#[]⟩, .string ⟨#[]⟩, .bool false] 103))
  go_enter Tryz.func59, Tryz.ntmps59
  go_wp2_with fail
  refine (refHost_any h _ (by omega)).mono ?_
  rintro e w1 ⟨rfl, hb1⟩
  rw [HK.out, HH.out]
  have hbx1 := HBX.out.below hb1 (by simp)
  have hsz1 : w.heap.size < w1.heap.size := by have := hb1.size; simp at this; omega
  have hbw := HBZ.out.trans (hb1.mono (by simp))
  have HBX1 := Lib.hid hbx1
  have HBW := Lib.hid hbw
  clear hb1 hbx1 hbw
  go_wp2_with fail
  go_loop [9, 10, 29] (fun p q i => ∃ k : Nat, k ≤ t.length ∧ p = .string ⟨t.toArray⟩ ∧ q = .string ⟨#[]⟩ ∧ i = .int .i64 k) (fun _ _ i => t.length - (intOf i).toNat)
  case atStart => exact ⟨0, Nat.zero_le _, rfl, rfl, rfl⟩
  case round =>
    obtain ⟨k, hkl, rfl, rfl, rfl⟩ := hrel
    by_cases hlt : k < t.length
    · have hne : ((t[k].toNat : Int) == 63) = false := beq_eq_false_iff_ne.2 (fun h => HNI.out (by have : t[k] = 63 := UInt8.toNat_inj.1 (show t[k].toNat = 63 by omega); rw [← this]; exact List.getElem_mem _))
      go_wp2
      go_round
      case rel => exact ⟨k + 1, by omega, rfl, rfl, by go_num⟩
      case measure => simp [intOf]; omega
    · clear hkl
      have HBA := Lib.hid (box_new w1 103 (.string ⟨(lower h).toArray⟩) (.string ⟨#[]⟩) (.string ⟨#[]⟩) (.bool false))
      have HB1 := Lib.hid ((Below.refl w1.heap.size w1).alloc (Nat.le_refl _) (.cells #[.string ⟨(lower h).toArray⟩, .string ⟨#[]⟩, .string ⟨#[]⟩, .bool false] 103))
      rcases HW.out with ⟨x, _⟩ | ⟨_, hs, e⟩ | ⟨_, p', q', has', hs, hc, e⟩ | ⟨_, p', q', has', u, q2, hs, hc1, hc2, e⟩
      · rw [HK.out] at x; cases x
      · rw [HCUT.out] at hs
        have HR := Lib.hid (HPAR.out.symm.trans e)
        clear e
        have hb2 := HB1.out
        obtain ⟨⟨c0, c1, c2, c3⟩, ⟨f0, f1, f2, f3⟩, hsz⟩ := HBX1.out.facts
        have hb := HBW.out.trans (hb2.mono (Nat.le_of_lt hsz1))
        clear hb2
        have HS := Lib.hid (show (t).head? ≠ some 47 from hs)
        clear hs
        by_cases hemp : (t).length = 0
        · have hpn : t = [] := List.eq_nil_of_length_eq_zero hemp
          subst hpn
          go_wp2_with fail
          refine bodyPost_ret (v := .tuple #[ad0, .int .i64 27]) (by simp [results, Tryz.results59, go_sem, c0, c1, c2, c3, hsz]) rfl ⟨by rw [HR.out]; rfl, ?_⟩
          exact (Box.set HBW.out (Nat.le_refl _) _ _ _ _).alloc (by simp; omega) _
        · have h0 : 0 < (t).length := by omega
          have hx1 : (((t)[0].toNat : Int) == 47) = false := beq_eq_false_iff_ne.2 (fun h => HS.out (by rw [List.head?_eq_getElem?, List.getElem?_eq_getElem h0]; exact congrArg some (UInt8.toNat_inj.1 (show (t)[0].toNat = 47 by omega))))
          have hx2 : (((t)[0].toNat : Int) != 47) = true := by rw [bne, hx1]; rfl
          go_wp2_with fail
          refine bodyPost_ret (v := .tuple #[ad0, .int .i64 27]) (by simp [results, Tryz.results59, go_sem, c0, c1, c2, c3, hsz]) rfl ⟨by rw [HR.out]; rfl, ?_⟩
          exact (Box.set HBW.out (Nat.le_refl _) _ _ _ _).alloc (by simp; omega) _
      · rw [HCUT.out] at hs
        have HR := Lib.hid (HPAR.out.symm.trans e)
        clear e
        have hP : t = 47 :: p' := congrArg Prod.fst hs
        have hQ : ([] : Bs) = q' := congrArg (fun x => x.2.1) hs
        subst hQ
        clear hs
        subst hP
        simp only [List.length_cons] at hlt
        go_wp2_with fail
        refine (refCanonical_any (47 :: p') [] _ (by simp at ht ⊢ <;> omega) (by decide)).mono ?_
        rintro e w3 ⟨rfl, hb3⟩
        rw [List.append_nil]
        go_wp2_with fail
        refine (refCanonical_any ([] : Bs) [63] _ (by simp at ht ⊢ <;> omega) (by decide)).mono ?_
        rintro e w4 ⟨rfl, hb4⟩
        have hb34 := hb3.trans (hb4.mono hb3.size)
        have hbx4 := ((HBX1.out.below HB1.out hsz1).below hb34 (by have := HB1.out.size; omega))
        have hb4' := HB1.out.trans (hb34.mono HB1.out.size)
        have hba4 := HBA.out.below hb34 (by simp)
        have hbz4 := hb4'.size
        have HX4 := Lib.hid hbx4
        have HA4 := Lib.hid hba4
        have HB4 := Lib.hid hb4'
        have hz4 : w1.heap.size < w4.heap.size := by have := hb34.size; simp at this; omega
        clear hb3 hb4 hb34 hbx4 hba4 hb4'
        obtain ⟨⟨c0, c1, c2, c3⟩, ⟨f0, f1, f2, f3⟩, hsz⟩ := HX4.out.facts
        have hb := HBW.out.trans (HB4.out.mono (Nat.le_of_lt hsz1))
        have hc' : canon (47 :: p') marks = none ∨ canon ([] : Bs) (marks ++ [63]) = none := hc
        clear hc
        generalize canon (47 :: p') marks = r1 at hc' ⊢
        generalize canon ([] : Bs) (marks ++ [63]) = r2 at hc' ⊢
        match r1, r2, hc' with
        | none, r2, _ =>
          go_wp2_with fail
          refine bodyPost_ret (v := .tuple #[ad0, .int .i64 27]) (by simp [results, Tryz.results59, go_sem, c0, c1, c2, c3]) rfl ⟨by rw [HR.out]; rfl, ?_⟩
          exact Box.set hb (Nat.le_refl _) _ _ _ _
        | some p2, none, _ =>
          go_wp2_with fail
          refine bodyPost_ret (v := .tuple #[ad0, .int .i64 27]) (by simp [results, Tryz.results59, go_sem, c0, c1, c2, c3]) rfl ⟨by rw [HR.out]; rfl, ?_⟩
          exact Box.set hb (Nat.le_refl _) _ _ _ _
      · rw [HCUT.out] at hs
        have hhas : false = has' := congrArg (fun x => x.2.2) hs
        subst hhas
        have HR := Lib.hid (HPAR.out.symm.trans e)
        clear e
        have hP : t = 47 :: p' := congrArg Prod.fst hs
        have hQ : ([] : Bs) = q' := congrArg (fun x => x.2.1) hs
        subst hQ
        clear hs
        have hu : u.length ≤ 536870912 := by have := canon_len _ _ _ hc1; rw [← hP] at this; simp at this ht; omega
        have hq2 : q2.length ≤ 536870912 := by have := canon_len _ _ _ hc2; simp at this; simp [this]
        have HC1 := Lib.hid (show canon (47 :: p') marks = some (47 :: u) from hc1)
        have HC2 := Lib.hid (show canon ([] : Bs) (marks ++ [63]) = some q2 from hc2)
        clear hc1 hc2
        subst hP
        simp only [List.length_cons] at hlt
        go_wp2_with fail
        refine (refCanonical_any (47 :: p') [] _ (by simp at ht ⊢ <;> omega) (by decide)).mono ?_
        rintro e w3 ⟨rfl, hb3⟩
        rw [List.append_nil]
        go_wp2_with fail
        refine (refCanonical_any ([] : Bs) [63] _ (by simp at ht ⊢ <;> omega) (by decide)).mono ?_
        rintro e w4 ⟨rfl, hb4⟩
        have hb34 := hb3.trans (hb4.mono hb3.size)
        have hbx4 := ((HBX1.out.below HB1.out hsz1).below hb34 (by have := HB1.out.size; omega))
        have hb4' := HB1.out.trans (hb34.mono HB1.out.size)
        have hba4 := HBA.out.below hb34 (by simp)
        have hbz4 := hb4'.size
        have HX4 := Lib.hid hbx4
        have HA4 := Lib.hid hba4
        have HB4 := Lib.hid hb4'
        have hz4 : w1.heap.size < w4.heap.size := by have := hb34.size; simp at this; omega
        clear hb3 hb4 hb34 hbx4 hba4 hb4'
        rw [HC1.out, HC2.out]
        go_wp2_with fail
        refine (refDots_any u w4 (by omega)).mono ?_
        rintro e w5 ⟨rfl, hb5⟩
        have hz5 := hb5.size
        have hba5 := HA4.out.below hb5 hz4
        obtain ⟨⟨c0, c1, c2, c3⟩, ⟨f0, f1, f2, f3⟩, hsz⟩ := (HX4.out.below hb5 (by omega)).facts
        obtain ⟨⟨d0, d1, d2, d3⟩, ⟨k0, k1, k2, k3⟩, _⟩ := hba5.facts
        have hb15 := HB4.out.trans (hb5.mono (Nat.le_of_lt hz4))
        have hneq : ¬ w1.heap.size = w.heap.size := by omega
        have hneq2 : ¬ w.heap.size = w1.heap.size := by omega
        clear hb5
        have HP := Lib.hid (pathC HR.out)
        cases hdr : dotsR (splitOn 47 u) with
        | none =>
          have HF := Lib.hid (HP.out.1 hdr)
          have hb := HBW.out.trans ((hb15.setCell (p := ⟨w1.heap.size, 1, none⟩) (Nat.le_refl _) (.string ⟨(optS none).toArray⟩)).mono (Nat.le_of_lt hsz1))
          go_wp2_with fail
          refine bodyPost_ret (v := .tuple #[ad0, .int .i64 27]) (by simp [results, Tryz.results59, go_sem, c0, c1, c2, c3]) rfl ⟨by rw [HF.out]; rfl, ?_⟩
          exact Box.set hb (Nat.le_refl _) _ _ _ _
        | some l =>
          have HF := Lib.hid (HP.out.2 l hdr)
          have hll : l.length ≤ 536870913 := by
            unfold dotsR at hdr
            exact dots_len u l hdr hu
          have hba6 := (hba5.set1 (.string ⟨l.toArray⟩)).set2 (.string ⟨q2.toArray⟩)
          have hb16 := (hb15.setCell (p := ⟨w1.heap.size, 1, none⟩) (Nat.le_refl _) (.string ⟨l.toArray⟩)).setCell (p := ⟨w1.heap.size, 2, none⟩) (Nat.le_refl _) (.string ⟨q2.toArray⟩)
          have hbx6 := HX4.out
          go_wp2_with fail
          refine (refText_any (lower h) l q2 false _ (by omega) (by omega) (by omega)).mono ?_
          rintro e w6 ⟨rfl, hb6⟩
          have hb17 := hb16.trans (hb6.mono (by simp; omega))
          obtain ⟨⟨a0, a1, a2, a3⟩, _, _⟩ := (hba6.below hb6 (by simp; omega)).facts
          clear c0 c1 c2 c3 f0 f1 f2 f3 d0 d1 d2 d3 k0 k1 k2 k3 hsz
          obtain ⟨⟨c0, c1, c2, c3⟩, ⟨f0, f1, f2, f3⟩, hsz⟩ := ((HBX1.out.below hb17 hsz1)).facts
          have hb := HBW.out.trans (hb17.mono (Nat.le_of_lt hsz1))
          clear hb6 hba6 hb16 hba5 hb15 hb17
          by_cases hlg : (adText (lower h) l q2 false).length > 1024
          · have HG := Lib.hid (HF.out.1 hlg)
            go_wp2_with fail
            refine bodyPost_ret (v := .tuple #[ad0, .int .i64 5]) (by simp [results, Tryz.results59, go_sem, c0, c1, c2, c3]) rfl ⟨by rw [HG.out]; rfl, ?_⟩
            exact Box.set hb (Nat.le_refl _) _ _ _ _
          · have HG := Lib.hid (HF.out.2 hlg)
            go_wp2_with fail
            refine bodyPost_ret (v := .tuple #[adV ⟨lower h, l, q2, false⟩, .int .i64 0]) (by simp [results, Tryz.results59, go_sem, c0, c1, c2, c3]) rfl ⟨by rw [HG.out]; rfl, ?_⟩
            exact Box.set hb (Nat.le_refl _) _ _ _ _

theorem refParse_query (h t p q : Bs) (w : World) (hh : h.length ≤ 536870912) (ht : (t).length ≤ 536870912) (hk : hostOk h = true) (hte : t = p ++ 63 :: q) (hc : 63 ∉ p) (r : Except Int Adr) (hpar : parse h (t) = r) :
    Calls Tryz.prog 59 #[.string ⟨h.toArray⟩, .string ⟨(t).toArray⟩] w fun e w' => e = .returned (.tuple #[parseV r, .int .i64 (codeOf r)]) ∧ Below w.heap.size w w' := by
  have HW := Lib.hid (parse_ways h (t))
  have HH := Lib.hid (hostS_yes h hk)
  have HK := Lib.hid hk
  have HPAR := Lib.hid hpar
  have hlh : (lower h).length ≤ 536870912 := by rw [lower_len]; exact hh
  clear hk hpar
  have HCUT := Lib.hid (show cutAt 63 t = (p, q, true) by rw [hte]; exact cutAt_hit 63 q p hc)
  have HNE := Lib.hid (show ∀ (k : Nat) (h : k < t.length), k < p.length → ¬ t[k] = 63 by
    subst hte
    intro k h hk e
    rw [List.getElem_append_left hk] at e
    exact hc (e ▸ List.getElem_mem hk))
  have HEQ := Lib.hid (show ∀ (h : p.length < t.length), t[p.length] = 63 by
    subst hte
    intro h
    rw [List.getElem_append_right (Nat.le_refl _)]
    simp)
  have HTP := Lib.hid (show t.take p.length = p by rw [hte]; simp)
  have HTQ := Lib.hid (show (t.drop (p.length + 1)).take (t.length - (p.length + 1)) = q by rw [hte]; simp [List.take_of_length_le, show p.length + (q.length + 1) - (p.length + 1) = q.length by omega])
  have hl1 : t.length ≤ p.length + q.length + 1 := by rw [hte]; simp; omega
  have hl2 : p.length + q.length + 1 ≤ t.length := by rw [hte]; simp; omega
  clear hc hte
  have HBX := Lib.hid (box_new w 103 (.string ⟨#[]⟩) (.string ⟨#[]⟩) (.string ⟨#[]⟩) (.bool false))
  have HBZ := Lib.hid ((Below.refl w.heap.size w).alloc (Nat.le_refl _) (.cells #[.string ⟨#[]⟩, .string ⟨#[]⟩, .string ⟨#[]⟩, .bool false] 103))
  go_enter Tryz.func59, Tryz.ntmps59
  go_wp2_with fail
  refine (refHost_any h _ (by omega)).mono ?_
  rintro e w1 ⟨rfl, hb1⟩
  rw [HK.out, HH.out]
  have hbx1 := HBX.out.below hb1 (by simp)
  have hsz1 : w.heap.size < w1.heap.size := by have := hb1.size; simp at this; omega
  have hbw := HBZ.out.trans (hb1.mono (by simp))
  have HBX1 := Lib.hid hbx1
  have HBW := Lib.hid hbw
  clear hb1 hbx1 hbw
  go_wp2_with fail
  go_loop [9, 10, 29] (fun a b i => ∃ k : Nat, k ≤ p.length ∧ a = .string ⟨t.toArray⟩ ∧ b = .string ⟨#[]⟩ ∧ i = .int .i64 k) (fun _ _ i => t.length - (intOf i).toNat)
  case atStart => exact ⟨0, Nat.zero_le _, rfl, rfl, rfl⟩
  case round =>
    obtain ⟨k, hkl, rfl, rfl, rfl⟩ := hrel
    have hkt : k < t.length := by omega
    by_cases hlt : k < p.length
    · have hne : ((t[k].toNat : Int) == 63) = false := beq_eq_false_iff_ne.2 (fun h => HNE.out k hkt hlt (UInt8.toNat_inj.1 (show t[k].toNat = 63 by omega)))
      go_wp2
      go_round
      case rel => exact ⟨k + 1, by omega, rfl, rfl, by go_num⟩
      case measure => simp [intOf]; omega
    · obtain rfl : p.length = k := by omega
      have hne : ((t[p.length].toNat : Int) == 63) = true := by rw [HEQ.out hkt]; rfl
      go_wp2_with fail
      have b1 : (0 : Int) ≤ (p.length : Int) := by omega
      have b2 : (p.length : Int) ≤ (t.length : Int) := by omega
      have b3 : (0 : Int) ≤ (p.length : Int) + 1 := by omega
      have b4 : (p.length : Int) + 1 ≤ (t.length : Int) := by omega
      have s1 : IntKind.i64.wrap ((p.length : Int) + 1) = (p.length : Int) + 1 := IntWalk.i64_in _ (by omega)
      have z1 : ((p.length : Int) + 1).toNat = p.length + 1 := by omega
      go_region_law? (fail)
      clear b1 b2 b3 b4 s1 z1
      rw [HTP.out, HTQ.out]
      have HBA := Lib.hid (show Box (w1.alloc (.cells #[.string ⟨(lower h).toArray⟩, .string ⟨#[]⟩, .string ⟨#[]⟩, .bool true] 103)).drew w1.heap.size 103 (.string ⟨(lower h).toArray⟩) (.string ⟨#[]⟩) (.string ⟨#[]⟩) (.bool true) from (box_new w1 103 (.string ⟨(lower h).toArray⟩) (.string ⟨#[]⟩) (.string ⟨#[]⟩) (.bool true)))
      have HB1 := Lib.hid (((Below.refl w1.heap.size w1).alloc (Nat.le_refl _) (.cells #[.string ⟨(lower h).toArray⟩, .string ⟨#[]⟩, .string ⟨#[]⟩, .bool true] 103)).drew)
      rcases HW.out with ⟨x, _⟩ | ⟨_, hs, e⟩ | ⟨_, p', q', has', hs, hc, e⟩ | ⟨_, p', q', has', u, q2, hs, hc1, hc2, e⟩
      · rw [HK.out] at x; cases x
      · rw [HCUT.out] at hs
        have HR := Lib.hid (HPAR.out.symm.trans e)
        clear e
        have hb2 := HB1.out
        obtain ⟨⟨c0, c1, c2, c3⟩, ⟨f0, f1, f2, f3⟩, hsz⟩ := HBX1.out.facts
        have hb := HBW.out.trans (hb2.mono (Nat.le_of_lt hsz1))
        clear hb2
        have HS := Lib.hid (show (p).head? ≠ some 47 from hs)
        clear hs
        by_cases hemp : (p).length = 0
        · have hpn : p = [] := List.eq_nil_of_length_eq_zero hemp
          subst hpn
          go_wp2_with fail
          refine bodyPost_ret (v := .tuple #[ad0, .int .i64 27]) (by simp [results, Tryz.results59, go_sem, c0, c1, c2, c3, hsz]) rfl ⟨by rw [HR.out]; rfl, ?_⟩
          exact ((Box.set HBW.out (Nat.le_refl _) _ _ _ _).alloc (by simp; omega) _).drew
        · have h0 : 0 < (p).length := by omega
          have hx1 : (((p)[0].toNat : Int) == 47) = false := beq_eq_false_iff_ne.2 (fun h => HS.out (by rw [List.head?_eq_getElem?, List.getElem?_eq_getElem h0]; exact congrArg some (UInt8.toNat_inj.1 (show (p)[0].toNat = 47 by omega))))
          have hx2 : (((p)[0].toNat : Int) != 47) = true := by rw [bne, hx1]; rfl
          go_wp2_with fail
          refine bodyPost_ret (v := .tuple #[ad0, .int .i64 27]) (by simp [results, Tryz.results59, go_sem, c0, c1, c2, c3, hsz]) rfl ⟨by rw [HR.out]; rfl, ?_⟩
          exact ((Box.set HBW.out (Nat.le_refl _) _ _ _ _).alloc (by simp; omega) _).drew
      · rw [HCUT.out] at hs
        have HR := Lib.hid (HPAR.out.symm.trans e)
        clear e
        have hP : p = 47 :: p' := congrArg Prod.fst hs
        have hQ : q = q' := congrArg (fun x => x.2.1) hs
        subst hQ
        clear hs
        subst hP
        go_wp2_with fail
        refine (refCanonical_any (47 :: p') [] _ (by simp at hl2 ⊢ <;> omega) (by decide)).mono ?_
        rintro e w3 ⟨rfl, hb3⟩
        rw [List.append_nil]
        go_wp2_with fail
        refine (refCanonical_any q [63] _ (by simp at hl2 ⊢ <;> omega) (by decide)).mono ?_
        rintro e w4 ⟨rfl, hb4⟩
        have hb34 := hb3.trans (hb4.mono hb3.size)
        have hbx4 := ((HBX1.out.below HB1.out hsz1).below hb34 (by have := HB1.out.size; omega))
        have hb4' := HB1.out.trans (hb34.mono HB1.out.size)
        have hba4 := HBA.out.below hb34 (by simp)
        have hbz4 := hb4'.size
        have HX4 := Lib.hid hbx4
        have HA4 := Lib.hid hba4
        have HB4 := Lib.hid hb4'
        have hz4 : w1.heap.size < w4.heap.size := by have := hb34.size; simp at this; omega
        clear hb3 hb4 hb34 hbx4 hba4 hb4'
        obtain ⟨⟨c0, c1, c2, c3⟩, ⟨f0, f1, f2, f3⟩, hsz⟩ := HX4.out.facts
        have hb := HBW.out.trans (HB4.out.mono (Nat.le_of_lt hsz1))
        have hc' : canon (47 :: p') marks = none ∨ canon q (marks ++ [63]) = none := hc
        clear hc
        generalize canon (47 :: p') marks = r1 at hc' ⊢
        generalize canon q (marks ++ [63]) = r2 at hc' ⊢
        match r1, r2, hc' with
        | none, r2, _ =>
          go_wp2_with fail
          refine bodyPost_ret (v := .tuple #[ad0, .int .i64 27]) (by simp [results, Tryz.results59, go_sem, c0, c1, c2, c3]) rfl ⟨by rw [HR.out]; rfl, ?_⟩
          exact Box.set hb (Nat.le_refl _) _ _ _ _
        | some p2, none, _ =>
          go_wp2_with fail
          refine bodyPost_ret (v := .tuple #[ad0, .int .i64 27]) (by simp [results, Tryz.results59, go_sem, c0, c1, c2, c3]) rfl ⟨by rw [HR.out]; rfl, ?_⟩
          exact Box.set hb (Nat.le_refl _) _ _ _ _
      · rw [HCUT.out] at hs
        have hhas : true = has' := congrArg (fun x => x.2.2) hs
        subst hhas
        have HR := Lib.hid (HPAR.out.symm.trans e)
        clear e
        have hP : p = 47 :: p' := congrArg Prod.fst hs
        have hQ : q = q' := congrArg (fun x => x.2.1) hs
        subst hQ
        clear hs
        have hu : u.length ≤ 536870912 := by have := canon_len _ _ _ hc1; rw [← hP] at this; simp at this hl2; omega
        have hq2 : q2.length ≤ 536870912 := by have := canon_len _ _ _ hc2; omega
        have HC1 := Lib.hid (show canon (47 :: p') marks = some (47 :: u) from hc1)
        have HC2 := Lib.hid (show canon q (marks ++ [63]) = some q2 from hc2)
        clear hc1 hc2
        subst hP
        go_wp2_with fail
        refine (refCanonical_any (47 :: p') [] _ (by simp at hl2 ⊢ <;> omega) (by decide)).mono ?_
        rintro e w3 ⟨rfl, hb3⟩
        rw [List.append_nil]
        go_wp2_with fail
        refine (refCanonical_any q [63] _ (by simp at hl2 ⊢ <;> omega) (by decide)).mono ?_
        rintro e w4 ⟨rfl, hb4⟩
        have hb34 := hb3.trans (hb4.mono hb3.size)
        have hbx4 := ((HBX1.out.below HB1.out hsz1).below hb34 (by have := HB1.out.size; omega))
        have hb4' := HB1.out.trans (hb34.mono HB1.out.size)
        have hba4 := HBA.out.below hb34 (by simp)
        have hbz4 := hb4'.size
        have HX4 := Lib.hid hbx4
        have HA4 := Lib.hid hba4
        have HB4 := Lib.hid hb4'
        have hz4 : w1.heap.size < w4.heap.size := by have := hb34.size; simp at this; omega
        clear hb3 hb4 hb34 hbx4 hba4 hb4'
        rw [HC1.out, HC2.out]
        go_wp2_with fail
        refine (refDots_any u w4 (by omega)).mono ?_
        rintro e w5 ⟨rfl, hb5⟩
        have hz5 := hb5.size
        have hba5 := HA4.out.below hb5 hz4
        obtain ⟨⟨c0, c1, c2, c3⟩, ⟨f0, f1, f2, f3⟩, hsz⟩ := (HX4.out.below hb5 (by omega)).facts
        obtain ⟨⟨d0, d1, d2, d3⟩, ⟨k0, k1, k2, k3⟩, _⟩ := hba5.facts
        have hb15 := HB4.out.trans (hb5.mono (Nat.le_of_lt hz4))
        have hneq : ¬ w1.heap.size = w.heap.size := by omega
        have hneq2 : ¬ w.heap.size = w1.heap.size := by omega
        clear hb5
        have HP := Lib.hid (pathC HR.out)
        cases hdr : dotsR (splitOn 47 u) with
        | none =>
          have HF := Lib.hid (HP.out.1 hdr)
          have hb := HBW.out.trans ((hb15.setCell (p := ⟨w1.heap.size, 1, none⟩) (Nat.le_refl _) (.string ⟨(optS none).toArray⟩)).mono (Nat.le_of_lt hsz1))
          go_wp2_with fail
          refine bodyPost_ret (v := .tuple #[ad0, .int .i64 27]) (by simp [results, Tryz.results59, go_sem, c0, c1, c2, c3]) rfl ⟨by rw [HF.out]; rfl, ?_⟩
          exact Box.set hb (Nat.le_refl _) _ _ _ _
        | some l =>
          have HF := Lib.hid (HP.out.2 l hdr)
          have hll : l.length ≤ 536870913 := by
            unfold dotsR at hdr
            exact dots_len u l hdr hu
          have hba6 := (hba5.set1 (.string ⟨l.toArray⟩)).set2 (.string ⟨q2.toArray⟩)
          have hb16 := (hb15.setCell (p := ⟨w1.heap.size, 1, none⟩) (Nat.le_refl _) (.string ⟨l.toArray⟩)).setCell (p := ⟨w1.heap.size, 2, none⟩) (Nat.le_refl _) (.string ⟨q2.toArray⟩)
          have hbx6 := HX4.out
          go_wp2_with fail
          refine (refText_any (lower h) l q2 true _ (by omega) (by omega) (by omega)).mono ?_
          rintro e w6 ⟨rfl, hb6⟩
          have hb17 := hb16.trans (hb6.mono (by simp; omega))
          obtain ⟨⟨a0, a1, a2, a3⟩, _, _⟩ := (hba6.below hb6 (by simp; omega)).facts
          clear c0 c1 c2 c3 f0 f1 f2 f3 d0 d1 d2 d3 k0 k1 k2 k3 hsz
          obtain ⟨⟨c0, c1, c2, c3⟩, ⟨f0, f1, f2, f3⟩, hsz⟩ := ((HBX1.out.below hb17 hsz1)).facts
          have hb := HBW.out.trans (hb17.mono (Nat.le_of_lt hsz1))
          clear hb6 hba6 hb16 hba5 hb15 hb17
          by_cases hlg : (adText (lower h) l q2 true).length > 1024
          · have HG := Lib.hid (HF.out.1 hlg)
            go_wp2_with fail
            refine bodyPost_ret (v := .tuple #[ad0, .int .i64 5]) (by simp [results, Tryz.results59, go_sem, c0, c1, c2, c3]) rfl ⟨by rw [HG.out]; rfl, ?_⟩
            exact Box.set hb (Nat.le_refl _) _ _ _ _
          · have HG := Lib.hid (HF.out.2 hlg)
            go_wp2_with fail
            refine bodyPost_ret (v := .tuple #[adV ⟨lower h, l, q2, true⟩, .int .i64 0]) (by simp [results, Tryz.results59, go_sem, c0, c1, c2, c3]) rfl ⟨by rw [HG.out]; rfl, ?_⟩
            exact Box.set hb (Nat.le_refl _) _ _ _ _

theorem refParse_any (h t : Bs) (w : World) (hh : h.length ≤ 536870912) (ht : t.length ≤ 536870912) :
    Calls Tryz.prog 59 #[.string ⟨h.toArray⟩, .string ⟨t.toArray⟩] w fun e w' => e = .returned (.tuple #[parseV (parse h t), .int .i64 (codeOf (parse h t))]) ∧ Below w.heap.size w w' := by
  cases hk : hostOk h with
  | false =>
    have e : parse h t = .error 8 := by simp [parse, hk]
    rw [e]
    exact refParse_host h t w hh hk
  | true =>
    rcases cutAt_forms t with ⟨_, hc⟩ | ⟨p, q, e, hc, _⟩
    · exact refParse_plain h t w hh ht hk hc _ rfl
    · exact refParse_query h t p q w hh ht hk e hc _ rfl
end A1
end Go.Proofs.YtnppicekfjdefaaGreatDoor
end

section
namespace Go.Proofs.YtnppicekfjdefaaGreatDoor
open Go.RowKit Pl Ad
namespace A1
theorem parseV_ok (a : Adr) : parseV (.ok a) = adV a := rfl
theorem parseV_err (n : Int) : parseV (.error n) = ad0 := rfl
theorem codeOf_ok (a : Adr) : codeOf (.ok a) = 0 := rfl
theorem codeOf_err (n : Int) : codeOf (.error n) = n := rfl
theorem parse_code {h t : Bs} {n : Int} (hp : parse h t = .error n) : ¬ n = 0 := by
  rcases parse_ways h t with ⟨_, e⟩ | ⟨_, _, e⟩ | ⟨_, _, _, _, _, _, e⟩ | ⟨_, _, _, _, u, _, _, _, _, e⟩
  · rw [e] at hp; cases hp; decide
  · rw [e] at hp; cases hp; decide
  · rw [e] at hp; cases hp; decide
  · rw [e] at hp
    cases hd : dotsL (splitOn 47 u) [] with
    | none => rw [hd] at hp; cases hp; decide
    | some left =>
      rw [hd] at hp
      simp only at hp
      split at hp <;> cases hp
      decide

end A1
end Go.Proofs.YtnppicekfjdefaaGreatDoor
end
