/- Contracts and plain facts that the statement's proof leans on (texts joined). No condition beyond those that each names. -/
import Derived.Deep.RegionLaw
import Derived.Shelf.Strings.Builder1
import Derived.Shelf.Strings.Builder2
import Derived.Shelf.Strings.OnBuilder
import Derived.Shelf.Small.Strs
import Derived.Shelf.Strconv.Atoi
import Derived.Shelf.Strconv.Itoa0
import Derived.Shelf.Strconv.Itoa1
import Derived.Shelf.LaysM
import Derived.Shelf.Strconv.Itoa2
import Derived.Shelf.Strconv.Itoa3
import Derived.Shelf.Strconv.AtoiErrFast
import Derived.Shelf.Strconv.ParseIntEmpty
import Derived.Shelf.Strconv.AtoiFail
import Derived.Shelf.Strconv.Clone
import Derived.Shelf.Strconv.SyntaxError
import Derived.Shelf.LaysC
import Derived.Shelf.Strconv.ToError
import Derived.Shelf.Strconv.Lower
import Derived.Shelf.Strconv.ParseUint10
import Derived.Shelf.Strconv.ParseUint10Empty
import Derived.Shelf.Strconv.ParseUint10Any
import Derived.Shelf.Strconv.ParseInt10
import Derived.Shelf.Strconv.AtoiLong
import Derived.Shelf.Strconv.AtoiInnerAll
import Derived.Shelf.Strconv.RangeError
import Derived.Shelf.Strconv.ToErrorRange
import Derived.Shelf.Strconv.AtoiAll
import Derived.Shelf.Strconv.ErrVarAll
import Derived.Shelf.Strings.Search1
import Derived.Shelf.Strings.Search2
import Derived.Shelf.Strings.Search3
import Derived.Shelf.Strings.Cut
import Derived.Shelf.Strings.Count
import Derived.Shelf.Strings.Shaped
import Derived.Shelf.Sort.Plain
import Derived.Shelf.Strings.Prefix
import Derived.Shelf.Strings.Split
import Derived.Shelf.Strings.SplitShaped
import Derived.Shelf.Unicode.Decode
import Derived.Shelf.Strings.RuneCount
import Derived.Shelf.Strings.Explode
import Derived.Shelf.Unicode.DecodeSlow
import Derived.Shelf.Slices.In.SortNone
import Derived.Test.YtpkhbhdidkkebaaGreatDoorProg
import Derived.Laws.Rows
import Derived.WalkKit
import Derived.Test.YtpkhbhdidkkebaaGreatDoorPvA
import Derived.Test.YtpkhbhdidkkebaaGreatDoorPvD
import Derived.Test.YtpkhbhdidkkebaaGreatDoorPvG
section
section
namespace Go.Proofs.YtpkhbhdidkkebaaGreatDoor
open Go.RowKit Pl Ad
attribute [local go_sem] ba_get conv_one conv_one_drewN ba_append ba_extract
set_option maxRecDepth 100000
set_option maxHeartbeats 4000000
set_option linter.unusedVariables false
namespace A1
attribute [local go_sem] optS_some
/-- What the reference's Parse returns: the address' value, the number of the error. -/
def codeOf : Except Int Adr → Int
  | .ok _ => 0
  | .error n => n

theorem Box.set1 {w : World} {R T : Nat} {v0 v1 v2 v3 : Value} (h : Box w R T v0 v1 v2 v3) (u : Value) : Box (w.setCell ⟨R, 1, none⟩ u) R T v0 u v2 v3 := by
 unfold Box at h ⊢
 simp [World.setCell, Array.getElem?_modify, h]
theorem Box.set2 {w : World} {R T : Nat} {v0 v1 v2 v3 : Value} (h : Box w R T v0 v1 v2 v3) (u : Value) : Box (w.setCell ⟨R, 2, none⟩ u) R T v0 v1 u v3 := by
 unfold Box at h ⊢
 simp [World.setCell, Array.getElem?_modify, h]
theorem pathC {h q : Bs} {xs : List Bs} {has : Bool} {r : Except Int Adr} (hr : r = match dotsL xs [] with
        | none => .error 27
        | some left => if (adText h (slashed left) q has).length > 1024 then .error 5 else .ok ⟨h, slashed left, q, has⟩) :
 (dotsR xs = none → r = .error 27) ∧ (∀ l, dotsR xs = some l → ((adText h l q has).length > 1024 → r = .error 5) ∧ (¬ (adText h l q has).length > 1024 → r = .ok ⟨h, l, q, has⟩)) := by
 subst hr
 unfold dotsR
 cases dotsL xs [] with
 | none => exact ⟨fun _ => rfl, fun l hl => (by cases hl)⟩
 | some left =>
   refine ⟨fun x => (by cases x), fun l hl => ?_⟩
   cases hl
   exact ⟨fun x => if_pos x, fun x => if_neg x⟩

theorem cutAt_forms (t : Bs) : cutAt 63 t = (t, [], false) ∧ 63 ∉ t ∨ ∃ p q, t = p ++ 63 :: q ∧ 63 ∉ p ∧ cutAt 63 t = (p, q, true) := by
 by_cases h : (63 : UInt8) ∈ t
 ·rcases indexByte_one 63 t with ⟨_, h2⟩ | ⟨p, q, rfl, h2, _⟩
  ·exact absurd h h2
  ·exact .inr ⟨p, q, rfl, h2, cutAt_hit 63 q p h2⟩
 ·exact .inl ⟨cutAt_miss 63 t h, h⟩

theorem refParse_host (h t : Bs) (w : World) (hh : h.length ≤ 536870912) (hk : hostOk h = false) :
 Calls Tryz.prog 96 #[.string ⟨h.toArray⟩, .string ⟨t.toArray⟩] w fun e w' => e = .returned (.tuple #[ad0, .int .i64 8]) ∧ Below w.heap.size w w' := by
 have HK := Lib.hid hk
 clear hk
 have HBX := Lib.hid (box_new w 63 (.string ⟨#[]⟩) (.string ⟨#[]⟩) (.string ⟨#[]⟩) (.bool false))
 have HBZ := Lib.hid ((Below.refl w.heap.size w).alloc (Nat.le_refl _) (.cells #[.string ⟨#[]⟩, .string ⟨#[]⟩, .string ⟨#[]⟩, .bool false] 63))
 go_enter Tryz.func96, Tryz.ntmps96
 go_wp2_with fail
 refine (refHost_any h _ (by omega)).mono ?_
 rintro e w1 ⟨rfl, hb1⟩
 rw [HK.out]
 obtain ⟨⟨c0, c1, c2, c3⟩, ⟨f0, f1, f2, f3⟩, hsz⟩ := (HBX.out.below hb1 (by simp)).facts
 have hb := HBZ.out.trans (hb1.mono (by simp))
 go_wp2_with fail
 refine bodyPost_ret (v := .tuple #[ad0, .int .i64 8]) (by simp [results, Tryz.results96, go_sem, c0, c1, c2, c3]) rfl ⟨rfl, ?_⟩
 exact Box.set hb (Nat.le_refl _) _ _ _ _

theorem dots_len (u l : Bs) (h : (dotsL (splitOn 47 u) []).map slashed = some l) (hu : u.length ≤ 536870912) : l.length ≤ 536870913 := by
 cases hd : dotsL (splitOn 47 u) [] with
 | none => rw [hd] at h; cases h
 | some left =>
   rw [hd] at h
   cases h
   have := dotsL_room (splitOn 47 u) [] left hd
   rw [room_nil, room_splitOn] at this
   unfold room at this
   omega

theorem refParse_plain (h t : Bs) (w : World) (hh : h.length ≤ 536870912) (ht : (t).length ≤ 536870912) (hk : hostOk h = true) (hc : 63 ∉ t) (r : Except Int Adr) (hpar : parse h (t) = r) :
 Calls Tryz.prog 96 #[.string ⟨h.toArray⟩, .string ⟨(t).toArray⟩] w fun e w' => e = .returned (.tuple #[parseV r, .int .i64 (codeOf r)]) ∧ Below w.heap.size w w' := by
 have HW := Lib.hid (parse_ways h (t))
 have HH := Lib.hid (hostS_yes h hk)
 have HK := Lib.hid hk
 have HPAR := Lib.hid hpar
 have hlh : (lower h).length ≤ 536870912 := by rw [lower_len]; exact hh
 clear hk hpar
 have HCUT := Lib.hid (cutAt_miss 63 t hc)
 have HNI := Lib.hid hc
 clear hc
 have HBX := Lib.hid (box_new w 63 (.string ⟨#[]⟩) (.string ⟨#[]⟩) (.string ⟨#[]⟩) (.bool false))
 have HBZ := Lib.hid ((Below.refl w.heap.size w).alloc (Nat.le_refl _) (.cells #[.string ⟨#[]⟩, .string ⟨#[]⟩, .string ⟨#[]⟩, .bool false] 63))
 go_enter Tryz.func96, Tryz.ntmps96
 go_wp2_with fail
 refine (refHost_any h _ (by omega)).mono ?_
 rintro e w1 ⟨rfl, hb1⟩
 rw [HK.out, HH.out]
 have hbx1 := HBX.out.below hb1 (by simp)
 have hsz1 : w.heap.size < w1.heap.size := by have := hb1.size; simp at this; omega
 have hbw := HBZ.out.trans (hb1.mono (by simp))
 have HBX1 := Lib.hid hbx1
 have HBW := Lib.hid hbw
 clear hb1 hbx1 hbw
 go_wp2_with fail
 go_loop [9, 10, 29] (fun p q i => ∃ k : Nat, k ≤ t.length ∧ p = .string ⟨t.toArray⟩ ∧ q = .string ⟨#[]⟩ ∧ i = .int .i64 k) (fun _ _ i => t.length - (intOf i).toNat)
 case atStart => exact ⟨0, Nat.zero_le _, rfl, rfl, rfl⟩
 case round =>
  obtain ⟨k, hkl, rfl, rfl, rfl⟩ := hrel
  by_cases hlt : k < t.length
  ·have hne : ((t[k].toNat : Int) == 63) = false := beq_eq_false_iff_ne.2 (fun h => HNI.out (by have : t[k] = 63 := UInt8.toNat_inj.1 (show t[k].toNat = 63 by omega); rw [← this]; exact List.getElem_mem _))
   go_wp2
   go_round
   case rel => exact ⟨k + 1, by omega, rfl, rfl, by go_num⟩
   case measure => simp [intOf]; omega
  ·clear hkl
   have HBA := Lib.hid (box_new w1 63 (.string ⟨(lower h).toArray⟩) (.string ⟨#[]⟩) (.string ⟨#[]⟩) (.bool false))
   have HB1 := Lib.hid ((Below.refl w1.heap.size w1).alloc (Nat.le_refl _) (.cells #[.string ⟨(lower h).toArray⟩, .string ⟨#[]⟩, .string ⟨#[]⟩, .bool false] 63))
   rcases HW.out with ⟨x, _⟩ | ⟨_, hs, e⟩ | ⟨_, p', q', has', hs, hc, e⟩ | ⟨_, p', q', has', u, q2, hs, hc1, hc2, e⟩
   ·rw [HK.out] at x; cases x
   ·rw [HCUT.out] at hs
    have HR := Lib.hid (HPAR.out.symm.trans e)
    clear e
    have hb2 := HB1.out
    obtain ⟨⟨c0, c1, c2, c3⟩, ⟨f0, f1, f2, f3⟩, hsz⟩ := HBX1.out.facts
    have hb := HBW.out.trans (hb2.mono (Nat.le_of_lt hsz1))
    clear hb2
    have HS := Lib.hid (show (t).head? ≠ some 47 from hs)
    clear hs
    by_cases hemp : (t).length = 0
    ·have hpn : t = [] := List.eq_nil_of_length_eq_zero hemp
     subst hpn
     go_wp2_with fail
     refine bodyPost_ret (v := .tuple #[ad0, .int .i64 27]) (by simp [results, Tryz.results96, go_sem, c0, c1, c2, c3, hsz]) rfl ⟨by rw [HR.out]; rfl, ?_⟩
     exact (Box.set HBW.out (Nat.le_refl _) _ _ _ _).alloc (by simp; omega) _
    ·have h0 : 0 < (t).length := by omega
     have hx1 : (((t)[0].toNat : Int) == 47) = false := beq_eq_false_iff_ne.2 (fun h => HS.out (by rw [List.head?_eq_getElem?, List.getElem?_eq_getElem h0]; exact congrArg some (UInt8.toNat_inj.1 (show (t)[0].toNat = 47 by omega))))
     have hx2 : (((t)[0].toNat : Int) != 47) = true := by rw [bne, hx1]; rfl
     go_wp2_with fail
     refine bodyPost_ret (v := .tuple #[ad0, .int .i64 27]) (by simp [results, Tryz.results96, go_sem, c0, c1, c2, c3, hsz]) rfl ⟨by rw [HR.out]; rfl, ?_⟩
     exact (Box.set HBW.out (Nat.le_refl _) _ _ _ _).alloc (by simp; omega) _
   ·rw [HCUT.out] at hs
    have HR := Lib.hid (HPAR.out.symm.trans e)
    clear e
    have hP : t = 47 :: p' := congrArg Prod.fst hs
    have hQ : ([] : Bs) = q' := congrArg (fun x => x.2.1) hs
    subst hQ
    clear hs
    subst hP
    simp only [List.length_cons] at hlt
    go_wp2_with fail
    refine (refCanonical_any (47 :: p') [] _ (by simp at ht ⊢ <;> omega) (by decide)).mono ?_
    rintro e w3 ⟨rfl, hb3⟩
    rw [List.append_nil]
    go_wp2_with fail
    refine (refCanonical_any ([] : Bs) [63] _ (by simp at ht ⊢ <;> omega) (by decide)).mono ?_
    rintro e w4 ⟨rfl, hb4⟩
    have hb34 := hb3.trans (hb4.mono hb3.size)
    have hbx4 := ((HBX1.out.below HB1.out hsz1).below hb34 (by have := HB1.out.size; omega))
    have hb4' := HB1.out.trans (hb34.mono HB1.out.size)
    have hba4 := HBA.out.below hb34 (by simp)
    have hbz4 := hb4'.size
    have HX4 := Lib.hid hbx4
    have HA4 := Lib.hid hba4
    have HB4 := Lib.hid hb4'
    have hz4 : w1.heap.size < w4.heap.size := by have := hb34.size; simp at this; omega
    clear hb3 hb4 hb34 hbx4 hba4 hb4'
    obtain ⟨⟨c0, c1, c2, c3⟩, ⟨f0, f1, f2, f3⟩, hsz⟩ := HX4.out.facts
    have hb := HBW.out.trans (HB4.out.mono (Nat.le_of_lt hsz1))
    have hc' : canon (47 :: p') marks = none ∨ canon ([] : Bs) (marks ++ [63]) = none := hc
    clear hc
    generalize canon (47 :: p') marks = r1 at hc' ⊢
    generalize canon ([] : Bs) (marks ++ [63]) = r2 at hc' ⊢
    match r1, r2, hc' with
    | none, r2, _ =>
      go_wp2_with fail
      refine bodyPost_ret (v := .tuple #[ad0, .int .i64 27]) (by simp [results, Tryz.results96, go_sem, c0, c1, c2, c3]) rfl ⟨by rw [HR.out]; rfl, ?_⟩
      exact Box.set hb (Nat.le_refl _) _ _ _ _
    | some p2, none, _ =>
      go_wp2_with fail
      refine bodyPost_ret (v := .tuple #[ad0, .int .i64 27]) (by simp [results, Tryz.results96, go_sem, c0, c1, c2, c3]) rfl ⟨by rw [HR.out]; rfl, ?_⟩
      exact Box.set hb (Nat.le_refl _) _ _ _ _
   ·rw [HCUT.out] at hs
    have hhas : false = has' := congrArg (fun x => x.2.2) hs
    subst hhas
    have HR := Lib.hid (HPAR.out.symm.trans e)
    clear e
    have hP : t = 47 :: p' := congrArg Prod.fst hs
    have hQ : ([] : Bs) = q' := congrArg (fun x => x.2.1) hs
    subst hQ
    clear hs
    have hu : u.length ≤ 536870912 := by have := canon_len _ _ _ hc1; rw [← hP] at this; simp at this ht; omega
    have hq2 : q2.length ≤ 536870912 := by have := canon_len _ _ _ hc2; simp at this; simp [this]
    have HC1 := Lib.hid (show canon (47 :: p') marks = some (47 :: u) from hc1)
    have HC2 := Lib.hid (show canon ([] : Bs) (marks ++ [63]) = some q2 from hc2)
    clear hc1 hc2
    subst hP
    simp only [List.length_cons] at hlt
    go_wp2_with fail
    refine (refCanonical_any (47 :: p') [] _ (by simp at ht ⊢ <;> omega) (by decide)).mono ?_
    rintro e w3 ⟨rfl, hb3⟩
    rw [List.append_nil]
    go_wp2_with fail
    refine (refCanonical_any ([] : Bs) [63] _ (by simp at ht ⊢ <;> omega) (by decide)).mono ?_
    rintro e w4 ⟨rfl, hb4⟩
    have hb34 := hb3.trans (hb4.mono hb3.size)
    have hbx4 := ((HBX1.out.below HB1.out hsz1).below hb34 (by have := HB1.out.size; omega))
    have hb4' := HB1.out.trans (hb34.mono HB1.out.size)
    have hba4 := HBA.out.below hb34 (by simp)
    have hbz4 := hb4'.size
    have HX4 := Lib.hid hbx4
    have HA4 := Lib.hid hba4
    have HB4 := Lib.hid hb4'
    have hz4 : w1.heap.size < w4.heap.size := by have := hb34.size; simp at this; omega
    clear hb3 hb4 hb34 hbx4 hba4 hb4'
    rw [HC1.out, HC2.out]
    go_wp2_with fail
    refine (refDots_any u w4 (by omega)).mono ?_
    rintro e w5 ⟨rfl, hb5⟩
    have hz5 := hb5.size
    have hba5 := HA4.out.below hb5 hz4
    obtain ⟨⟨c0, c1, c2, c3⟩, ⟨f0, f1, f2, f3⟩, hsz⟩ := (HX4.out.below hb5 (by omega)).facts
    obtain ⟨⟨d0, d1, d2, d3⟩, ⟨k0, k1, k2, k3⟩, _⟩ := hba5.facts
    have hb15 := HB4.out.trans (hb5.mono (Nat.le_of_lt hz4))
    have hneq : ¬ w1.heap.size = w.heap.size := by omega
    have hneq2 : ¬ w.heap.size = w1.heap.size := by omega
    clear hb5
    have HP := Lib.hid (pathC HR.out)
    cases hdr : dotsR (splitOn 47 u) with
    | none =>
      have HF := Lib.hid (HP.out.1 hdr)
      have hb := HBW.out.trans ((hb15.setCell (p := ⟨w1.heap.size, 1, none⟩) (Nat.le_refl _) (.string ⟨(optS none).toArray⟩)).mono (Nat.le_of_lt hsz1))
      go_wp2_with fail
      refine bodyPost_ret (v := .tuple #[ad0, .int .i64 27]) (by simp [results, Tryz.results96, go_sem, c0, c1, c2, c3]) rfl ⟨by rw [HF.out]; rfl, ?_⟩
      exact Box.set hb (Nat.le_refl _) _ _ _ _
    | some l =>
      have HF := Lib.hid (HP.out.2 l hdr)
      have hll : l.length ≤ 536870913 := by
       unfold dotsR at hdr
       exact dots_len u l hdr hu
      have hba6 := (hba5.set1 (.string ⟨l.toArray⟩)).set2 (.string ⟨q2.toArray⟩)
      have hb16 := (hb15.setCell (p := ⟨w1.heap.size, 1, none⟩) (Nat.le_refl _) (.string ⟨l.toArray⟩)).setCell (p := ⟨w1.heap.size, 2, none⟩) (Nat.le_refl _) (.string ⟨q2.toArray⟩)
      have hbx6 := HX4.out
      go_wp2_with fail
      refine (refText_any (lower h) l q2 false _ (by omega) (by omega) (by omega)).mono ?_
      rintro e w6 ⟨rfl, hb6⟩
      have hb17 := hb16.trans (hb6.mono (by simp; omega))
      obtain ⟨⟨a0, a1, a2, a3⟩, _, _⟩ := (hba6.below hb6 (by simp; omega)).facts
      clear c0 c1 c2 c3 f0 f1 f2 f3 d0 d1 d2 d3 k0 k1 k2 k3 hsz
      obtain ⟨⟨c0, c1, c2, c3⟩, ⟨f0, f1, f2, f3⟩, hsz⟩ := ((HBX1.out.below hb17 hsz1)).facts
      have hb := HBW.out.trans (hb17.mono (Nat.le_of_lt hsz1))
      clear hb6 hba6 hb16 hba5 hb15 hb17
      by_cases hlg : (adText (lower h) l q2 false).length > 1024
      ·have HG := Lib.hid (HF.out.1 hlg)
       go_wp2_with fail
       refine bodyPost_ret (v := .tuple #[ad0, .int .i64 5]) (by simp [results, Tryz.results96, go_sem, c0, c1, c2, c3]) rfl ⟨by rw [HG.out]; rfl, ?_⟩
       exact Box.set hb (Nat.le_refl _) _ _ _ _
      ·have HG := Lib.hid (HF.out.2 hlg)
       go_wp2_with fail
       refine bodyPost_ret (v := .tuple #[adV ⟨lower h, l, q2, false⟩, .int .i64 0]) (by simp [results, Tryz.results96, go_sem, c0, c1, c2, c3]) rfl ⟨by rw [HG.out]; rfl, ?_⟩
       exact Box.set hb (Nat.le_refl _) _ _ _ _

theorem refParse_query (h t p q : Bs) (w : World) (hh : h.length ≤ 536870912) (ht : (t).length ≤ 536870912) (hk : hostOk h = true) (hte : t = p ++ 63 :: q) (hc : 63 ∉ p) (r : Except Int Adr) (hpar : parse h (t) = r) :
 Calls Tryz.prog 96 #[.string ⟨h.toArray⟩, .string ⟨(t).toArray⟩] w fun e w' => e = .returned (.tuple #[parseV r, .int .i64 (codeOf r)]) ∧ Below w.heap.size w w' := by
 have HW := Lib.hid (parse_ways h (t))
 have HH := Lib.hid (hostS_yes h hk)
 have HK := Lib.hid hk
 have HPAR := Lib.hid hpar
 have hlh : (lower h).length ≤ 536870912 := by rw [lower_len]; exact hh
 clear hk hpar
 have HCUT := Lib.hid (show cutAt 63 t = (p, q, true) by rw [hte]; exact cutAt_hit 63 q p hc)
 have HNE := Lib.hid (show ∀ (k : Nat) (h : k < t.length), k < p.length → ¬ t[k] = 63 by
  subst hte
  intro k h hk e
  rw [List.getElem_append_left hk] at e
  exact hc (e ▸ List.getElem_mem hk))
 have HEQ := Lib.hid (show ∀ (h : p.length < t.length), t[p.length] = 63 by
  subst hte
  intro h
  rw [List.getElem_append_right (Nat.le_refl _)]
  simp)
 have HTP := Lib.hid (show t.take p.length = p by rw [hte]; simp)
 have HTQ := Lib.hid (show (t.drop (p.length + 1)).take (t.length - (p.length + 1)) = q by rw [hte]; simp [List.take_of_length_le, show p.length + (q.length + 1) - (p.length + 1) = q.length by omega])
 have hl1 : t.length ≤ p.length + q.length + 1 := by rw [hte]; simp; omega
 have hl2 : p.length + q.length + 1 ≤ t.length := by rw [hte]; simp; omega
 clear hc hte
 have HBX := Lib.hid (box_new w 63 (.string ⟨#[]⟩) (.string ⟨#[]⟩) (.string ⟨#[]⟩) (.bool false))
 have HBZ := Lib.hid ((Below.refl w.heap.size w).alloc (Nat.le_refl _) (.cells #[.string ⟨#[]⟩, .string ⟨#[]⟩, .string ⟨#[]⟩, .bool false] 63))
 go_enter Tryz.func96, Tryz.ntmps96
 go_wp2_with fail
 refine (refHost_any h _ (by omega)).mono ?_
 rintro e w1 ⟨rfl, hb1⟩
 rw [HK.out, HH.out]
 have hbx1 := HBX.out.below hb1 (by simp)
 have hsz1 : w.heap.size < w1.heap.size := by have := hb1.size; simp at this; omega
 have hbw := HBZ.out.trans (hb1.mono (by simp))
 have HBX1 := Lib.hid hbx1
 have HBW := Lib.hid hbw
 clear hb1 hbx1 hbw
 go_wp2_with fail
 go_loop [9, 10, 29] (fun a b i => ∃ k : Nat, k ≤ p.length ∧ a = .string ⟨t.toArray⟩ ∧ b = .string ⟨#[]⟩ ∧ i = .int .i64 k) (fun _ _ i => t.length - (intOf i).toNat)
 case atStart => exact ⟨0, Nat.zero_le _, rfl, rfl, rfl⟩
 case round =>
  obtain ⟨k, hkl, rfl, rfl, rfl⟩ := hrel
  have hkt : k < t.length := by omega
  by_cases hlt : k < p.length
  ·have hne : ((t[k].toNat : Int) == 63) = false := beq_eq_false_iff_ne.2 (fun h => HNE.out k hkt hlt (UInt8.toNat_inj.1 (show t[k].toNat = 63 by omega)))
   go_wp2
   go_round
   case rel => exact ⟨k + 1, by omega, rfl, rfl, by go_num⟩
   case measure => simp [intOf]; omega
  ·obtain rfl : p.length = k := by omega
   have hne : ((t[p.length].toNat : Int) == 63) = true := by rw [HEQ.out hkt]; rfl
   go_wp2_with fail
   have b1 : (0 : Int) ≤ (p.length : Int) := by omega
   have b2 : (p.length : Int) ≤ (t.length : Int) := by omega
   have b3 : (0 : Int) ≤ (p.length : Int) + 1 := by omega
   have b4 : (p.length : Int) + 1 ≤ (t.length : Int) := by omega
   have s1 : IntKind.i64.wrap ((p.length : Int) + 1) = (p.length : Int) + 1 := IntWalk.i64_in _ (by omega)
   have z1 : ((p.length : Int) + 1).toNat = p.length + 1 := by omega
   go_region_law? (fail)
   clear b1 b2 b3 b4 s1 z1
   rw [HTP.out, HTQ.out]
   have HBA := Lib.hid (show Box (w1.alloc (.cells #[.string ⟨(lower h).toArray⟩, .string ⟨#[]⟩, .string ⟨#[]⟩, .bool true] 63)).drew w1.heap.size 63 (.string ⟨(lower h).toArray⟩) (.string ⟨#[]⟩) (.string ⟨#[]⟩) (.bool true) from (box_new w1 63 (.string ⟨(lower h).toArray⟩) (.string ⟨#[]⟩) (.string ⟨#[]⟩) (.bool true)))
   have HB1 := Lib.hid (((Below.refl w1.heap.size w1).alloc (Nat.le_refl _) (.cells #[.string ⟨(lower h).toArray⟩, .string ⟨#[]⟩, .string ⟨#[]⟩, .bool true] 63)).drew)
   rcases HW.out with ⟨x, _⟩ | ⟨_, hs, e⟩ | ⟨_, p', q', has', hs, hc, e⟩ | ⟨_, p', q', has', u, q2, hs, hc1, hc2, e⟩
   ·rw [HK.out] at x; cases x
   ·rw [HCUT.out] at hs
    have HR := Lib.hid (HPAR.out.symm.trans e)
    clear e
    have hb2 := HB1.out
    obtain ⟨⟨c0, c1, c2, c3⟩, ⟨f0, f1, f2, f3⟩, hsz⟩ := HBX1.out.facts
    have hb := HBW.out.trans (hb2.mono (Nat.le_of_lt hsz1))
    clear hb2
    have HS := Lib.hid (show (p).head? ≠ some 47 from hs)
    clear hs
    by_cases hemp : (p).length = 0
    ·have hpn : p = [] := List.eq_nil_of_length_eq_zero hemp
     subst hpn
     go_wp2_with fail
     refine bodyPost_ret (v := .tuple #[ad0, .int .i64 27]) (by simp [results, Tryz.results96, go_sem, c0, c1, c2, c3, hsz]) rfl ⟨by rw [HR.out]; rfl, ?_⟩
     exact ((Box.set HBW.out (Nat.le_refl _) _ _ _ _).alloc (by simp; omega) _).drew
    ·have h0 : 0 < (p).length := by omega
     have hx1 : (((p)[0].toNat : Int) == 47) = false := beq_eq_false_iff_ne.2 (fun h => HS.out (by rw [List.head?_eq_getElem?, List.getElem?_eq_getElem h0]; exact congrArg some (UInt8.toNat_inj.1 (show (p)[0].toNat = 47 by omega))))
     have hx2 : (((p)[0].toNat : Int) != 47) = true := by rw [bne, hx1]; rfl
     go_wp2_with fail
     refine bodyPost_ret (v := .tuple #[ad0, .int .i64 27]) (by simp [results, Tryz.results96, go_sem, c0, c1, c2, c3, hsz]) rfl ⟨by rw [HR.out]; rfl, ?_⟩
     exact ((Box.set HBW.out (Nat.le_refl _) _ _ _ _).alloc (by simp; omega) _).drew
   ·rw [HCUT.out] at hs
    have HR := Lib.hid (HPAR.out.symm.trans e)
    clear e
    have hP : p = 47 :: p' := congrArg Prod.fst hs
    have hQ : q = q' := congrArg (fun x => x.2.1) hs
    subst hQ
    clear hs
    subst hP
    go_wp2_with fail
    refine (refCanonical_any (47 :: p') [] _ (by simp at hl2 ⊢ <;> omega) (by decide)).mono ?_
    rintro e w3 ⟨rfl, hb3⟩
    rw [List.append_nil]
    go_wp2_with fail
    refine (refCanonical_any q [63] _ (by simp at hl2 ⊢ <;> omega) (by decide)).mono ?_
    rintro e w4 ⟨rfl, hb4⟩
    have hb34 := hb3.trans (hb4.mono hb3.size)
    have hbx4 := ((HBX1.out.below HB1.out hsz1).below hb34 (by have := HB1.out.size; omega))
    have hb4' := HB1.out.trans (hb34.mono HB1.out.size)
    have hba4 := HBA.out.below hb34 (by simp)
    have hbz4 := hb4'.size
    have HX4 := Lib.hid hbx4
    have HA4 := Lib.hid hba4
    have HB4 := Lib.hid hb4'
    have hz4 : w1.heap.size < w4.heap.size := by have := hb34.size; simp at this; omega
    clear hb3 hb4 hb34 hbx4 hba4 hb4'
    obtain ⟨⟨c0, c1, c2, c3⟩, ⟨f0, f1, f2, f3⟩, hsz⟩ := HX4.out.facts
    have hb := HBW.out.trans (HB4.out.mono (Nat.le_of_lt hsz1))
    have hc' : canon (47 :: p') marks = none ∨ canon q (marks ++ [63]) = none := hc
    clear hc
    generalize canon (47 :: p') marks = r1 at hc' ⊢
    generalize canon q (marks ++ [63]) = r2 at hc' ⊢
    match r1, r2, hc' with
    | none, r2, _ =>
      go_wp2_with fail
      refine bodyPost_ret (v := .tuple #[ad0, .int .i64 27]) (by simp [results, Tryz.results96, go_sem, c0, c1, c2, c3]) rfl ⟨by rw [HR.out]; rfl, ?_⟩
      exact Box.set hb (Nat.le_refl _) _ _ _ _
    | some p2, none, _ =>
      go_wp2_with fail
      refine bodyPost_ret (v := .tuple #[ad0, .int .i64 27]) (by simp [results, Tryz.results96, go_sem, c0, c1, c2, c3]) rfl ⟨by rw [HR.out]; rfl, ?_⟩
      exact Box.set hb (Nat.le_refl _) _ _ _ _
   ·rw [HCUT.out] at hs
    have hhas : true = has' := congrArg (fun x => x.2.2) hs
    subst hhas
    have HR := Lib.hid (HPAR.out.symm.trans e)
    clear e
    have hP : p = 47 :: p' := congrArg Prod.fst hs
    have hQ : q = q' := congrArg (fun x => x.2.1) hs
    subst hQ
    clear hs
    have hu : u.length ≤ 536870912 := by have := canon_len _ _ _ hc1; rw [← hP] at this; simp at this hl2; omega
    have hq2 : q2.length ≤ 536870912 := by have := canon_len _ _ _ hc2; omega
    have HC1 := Lib.hid (show canon (47 :: p') marks = some (47 :: u) from hc1)
    have HC2 := Lib.hid (show canon q (marks ++ [63]) = some q2 from hc2)
    clear hc1 hc2
    subst hP
    go_wp2_with fail
    refine (refCanonical_any (47 :: p') [] _ (by simp at hl2 ⊢ <;> omega) (by decide)).mono ?_
    rintro e w3 ⟨rfl, hb3⟩
    rw [List.append_nil]
    go_wp2_with fail
    refine (refCanonical_any q [63] _ (by simp at hl2 ⊢ <;> omega) (by decide)).mono ?_
    rintro e w4 ⟨rfl, hb4⟩
    have hb34 := hb3.trans (hb4.mono hb3.size)
    have hbx4 := ((HBX1.out.below HB1.out hsz1).below hb34 (by have := HB1.out.size; omega))
    have hb4' := HB1.out.trans (hb34.mono HB1.out.size)
    have hba4 := HBA.out.below hb34 (by simp)
    have hbz4 := hb4'.size
    have HX4 := Lib.hid hbx4
    have HA4 := Lib.hid hba4
    have HB4 := Lib.hid hb4'
    have hz4 : w1.heap.size < w4.heap.size := by have := hb34.size; simp at this; omega
    clear hb3 hb4 hb34 hbx4 hba4 hb4'
    rw [HC1.out, HC2.out]
    go_wp2_with fail
    refine (refDots_any u w4 (by omega)).mono ?_
    rintro e w5 ⟨rfl, hb5⟩
    have hz5 := hb5.size
    have hba5 := HA4.out.below hb5 hz4
    obtain ⟨⟨c0, c1, c2, c3⟩, ⟨f0, f1, f2, f3⟩, hsz⟩ := (HX4.out.below hb5 (by omega)).facts
    obtain ⟨⟨d0, d1, d2, d3⟩, ⟨k0, k1, k2, k3⟩, _⟩ := hba5.facts
    have hb15 := HB4.out.trans (hb5.mono (Nat.le_of_lt hz4))
    have hneq : ¬ w1.heap.size = w.heap.size := by omega
    have hneq2 : ¬ w.heap.size = w1.heap.size := by omega
    clear hb5
    have HP := Lib.hid (pathC HR.out)
    cases hdr : dotsR (splitOn 47 u) with
    | none =>
      have HF := Lib.hid (HP.out.1 hdr)
      have hb := HBW.out.trans ((hb15.setCell (p := ⟨w1.heap.size, 1, none⟩) (Nat.le_refl _) (.string ⟨(optS none).toArray⟩)).mono (Nat.le_of_lt hsz1))
      go_wp2_with fail
      refine bodyPost_ret (v := .tuple #[ad0, .int .i64 27]) (by simp [results, Tryz.results96, go_sem, c0, c1, c2, c3]) rfl ⟨by rw [HF.out]; rfl, ?_⟩
      exact Box.set hb (Nat.le_refl _) _ _ _ _
    | some l =>
      have HF := Lib.hid (HP.out.2 l hdr)
      have hll : l.length ≤ 536870913 := by
       unfold dotsR at hdr
       exact dots_len u l hdr hu
      have hba6 := (hba5.set1 (.string ⟨l.toArray⟩)).set2 (.string ⟨q2.toArray⟩)
      have hb16 := (hb15.setCell (p := ⟨w1.heap.size, 1, none⟩) (Nat.le_refl _) (.string ⟨l.toArray⟩)).setCell (p := ⟨w1.heap.size, 2, none⟩) (Nat.le_refl _) (.string ⟨q2.toArray⟩)
      have hbx6 := HX4.out
      go_wp2_with fail
      refine (refText_any (lower h) l q2 true _ (by omega) (by omega) (by omega)).mono ?_
      rintro e w6 ⟨rfl, hb6⟩
      have hb17 := hb16.trans (hb6.mono (by simp; omega))
      obtain ⟨⟨a0, a1, a2, a3⟩, _, _⟩ := (hba6.below hb6 (by simp; omega)).facts
      clear c0 c1 c2 c3 f0 f1 f2 f3 d0 d1 d2 d3 k0 k1 k2 k3 hsz
      obtain ⟨⟨c0, c1, c2, c3⟩, ⟨f0, f1, f2, f3⟩, hsz⟩ := ((HBX1.out.below hb17 hsz1)).facts
      have hb := HBW.out.trans (hb17.mono (Nat.le_of_lt hsz1))
      clear hb6 hba6 hb16 hba5 hb15 hb17
      by_cases hlg : (adText (lower h) l q2 true).length > 1024
      ·have HG := Lib.hid (HF.out.1 hlg)
       go_wp2_with fail
       refine bodyPost_ret (v := .tuple #[ad0, .int .i64 5]) (by simp [results, Tryz.results96, go_sem, c0, c1, c2, c3]) rfl ⟨by rw [HG.out]; rfl, ?_⟩
       exact Box.set hb (Nat.le_refl _) _ _ _ _
      ·have HG := Lib.hid (HF.out.2 hlg)
       go_wp2_with fail
       refine bodyPost_ret (v := .tuple #[adV ⟨lower h, l, q2, true⟩, .int .i64 0]) (by simp [results, Tryz.results96, go_sem, c0, c1, c2, c3]) rfl ⟨by rw [HG.out]; rfl, ?_⟩
       exact Box.set hb (Nat.le_refl _) _ _ _ _

theorem refParse_any (h t : Bs) (w : World) (hh : h.length ≤ 536870912) (ht : t.length ≤ 536870912) :
 Calls Tryz.prog 96 #[.string ⟨h.toArray⟩, .string ⟨t.toArray⟩] w fun e w' => e = .returned (.tuple #[parseV (parse h t), .int .i64 (codeOf (parse h t))]) ∧ Below w.heap.size w w' := by
 cases hk : hostOk h with
 | false =>
   have e : parse h t = .error 8 := by simp [parse, hk]
   rw [e]
   exact refParse_host h t w hh hk
 | true =>
   rcases cutAt_forms t with ⟨_, hc⟩ | ⟨p, q, e, hc, _⟩
   ·exact refParse_plain h t w hh ht hk hc _ rfl
   ·exact refParse_query h t p q w hh ht hk e hc _ rfl
end A1
end Go.Proofs.YtpkhbhdidkkebaaGreatDoor
end

section
namespace Go.Proofs.YtpkhbhdidkkebaaGreatDoor
open Go.RowKit Pl Ad
namespace A1
theorem parseV_ok (a : Adr) : parseV (.ok a) = adV a := rfl
theorem parseV_err (n : Int) : parseV (.error n) = ad0 := rfl
theorem codeOf_ok (a : Adr) : codeOf (.ok a) = 0 := rfl
theorem codeOf_err (n : Int) : codeOf (.error n) = n := rfl
theorem parse_code {h t : Bs} {n : Int} (hp : parse h t = .error n) : ¬ n = 0 := by
 rcases parse_ways h t with ⟨_, e⟩ | ⟨_, _, e⟩ | ⟨_, _, _, _, _, _, e⟩ | ⟨_, _, _, _, u, _, _, _, _, e⟩
 ·rw [e] at hp; cases hp; decide
 ·rw [e] at hp; cases hp; decide
 ·rw [e] at hp; cases hp; decide
 ·rw [e] at hp
  cases hd : dotsL (splitOn 47 u) [] with
  | none => rw [hd] at hp; cases hp; decide
  | some left =>
    rw [hd] at hp
    simp only at hp
    split at hp <;> cases hp
    decide

end A1
end Go.Proofs.YtpkhbhdidkkebaaGreatDoor
end
end

section
namespace Go.Proofs
open Go.Shelf
def Tryz.laysM171_ren : Go.Shelf.Ren := ⟨fun | 171 => 43 | 243 => 84 | 246 => 113 | 283 => 147 | 284 => 148 | 285 => 149 | 286 => 150 | 129 => 124 | 317 => 170 | 318 => 171 | 319 => 172 | 320 => 173 | 337 => 180 | 338 => 181 | n => n, fun | 3 => 3 | 9 => 9 | 2 => 2 | 4 => 4 | 171 => 197 | 0 => 0 | 53 => 180 | 37 => 45 | 5 => 5 | 173 => 199 | 212 => 217 | 51 => 154 | 20 => 20 | 213 => 218 | 46 => 130 | 232 => 232 | 233 => 233 | n => n, fun | 17 => 4 | 18 => 7 | 19 => 8 | n => n⟩
theorem Tryz.laysM171 : Go.Proofs.LaysM.n171 Tryz.prog Tryz.laysM171_ren := {
  mixed := by kernel_rfl
  f129 := Tryz.func124.trans (congrArg some (by kernel_rfl))
  f171 := Tryz.func43.trans (congrArg some (by kernel_rfl))
  f243 := Tryz.func84.trans (congrArg some (by kernel_rfl))
  f246 := Tryz.func113.trans (congrArg some (by kernel_rfl))
  f283 := Tryz.func147.trans (congrArg some (by kernel_rfl))
  f284 := Tryz.func148.trans (congrArg some (by kernel_rfl))
  f285 := Tryz.func149.trans (congrArg some (by kernel_rfl))
  f286 := Tryz.func150.trans (congrArg some (by kernel_rfl))
  f317 := Tryz.func170.trans (congrArg some (by kernel_rfl))
  f318 := Tryz.func171.trans (congrArg some (by kernel_rfl))
  f319 := Tryz.func172.trans (congrArg some (by kernel_rfl))
  f320 := Tryz.func173.trans (congrArg some (by kernel_rfl))
  f337 := Tryz.func180.trans (congrArg some (by kernel_rfl))
  f338 := Tryz.func181.trans (congrArg some (by kernel_rfl))
  t0 := Tryz.underlying0
  a0 := Tryz.isAgg0
  z0 := Tryz.sizeOf0
  v0 := Tryz.zeroValue0
  t2 := Tryz.underlying2
  a2 := Tryz.isAgg2
  z2 := Tryz.sizeOf2
  v2 := Tryz.zeroValue2
  t3 := Tryz.underlying3
  a3 := Tryz.isAgg3
  z3 := Tryz.sizeOf3
  v3 := Tryz.zeroValue3
  t4 := Tryz.underlying4
  a4 := Tryz.isAgg4
  z4 := Tryz.sizeOf4
  v4 := Tryz.zeroValue4
  t5 := Tryz.underlying5
  a5 := Tryz.isAgg5
  z5 := Tryz.sizeOf5
  v5 := Tryz.zeroValue5
  t9 := Tryz.underlying9
  a9 := Tryz.isAgg9
  z9 := Tryz.sizeOf9
  v9 := Tryz.zeroValue9
  t20 := Tryz.underlying20
  a20 := Tryz.isAgg20
  z20 := Tryz.sizeOf20
  v20 := Tryz.zeroValue20
  t37 := Tryz.underlying45
  a37 := Tryz.isAgg45
  z37 := Tryz.sizeOf45
  v37 := Tryz.zeroValue45
  t46 := Tryz.underlying130
  a46 := Tryz.isAgg130
  z46 := Tryz.sizeOf130
  v46 := Tryz.zeroValue130
  t51 := Tryz.underlying154
  a51 := Tryz.isAgg154
  z51 := Tryz.sizeOf154
  v51 := Tryz.zeroValue154
  t53 := Tryz.underlying180
  a53 := Tryz.isAgg180
  z53 := Tryz.sizeOf180
  v53 := Tryz.zeroValue180
  t171 := Tryz.underlying197
  a171 := Tryz.isAgg197
  z171 := Tryz.sizeOf197
  v171 := Tryz.zeroValue197
  t173 := Tryz.underlying199
  a173 := Tryz.isAgg199
  z173 := Tryz.sizeOf199
  v173 := Tryz.zeroValue199
  t212 := Tryz.underlying217
  a212 := Tryz.isAgg217
  z212 := Tryz.sizeOf217
  v212 := Tryz.zeroValue217
  t213 := Tryz.underlying218
  a213 := Tryz.isAgg218
  z213 := Tryz.sizeOf218
  t232 := Tryz.underlying232
  a232 := Tryz.isAgg232
  z232 := Tryz.sizeOf232
  v232 := Tryz.zeroValue232
  t233 := Tryz.underlying233
  a233 := Tryz.isAgg233
  z233 := Tryz.sizeOf233
  v233 := Tryz.zeroValue233
  g17 := by kernel_rfl
  g18 := by kernel_rfl
  g19 := by kernel_rfl
  i0 := by kernel_rfl
  i2 := by kernel_rfl
  i3 := by kernel_rfl
  i4 := by kernel_rfl
  i5 := by kernel_rfl
  i9 := by kernel_rfl
  i20 := by kernel_rfl
  i37 := by kernel_rfl
  i46 := by kernel_rfl
  i51 := by kernel_rfl
  i53 := by kernel_rfl
  i171 := by kernel_rfl
  i173 := by kernel_rfl
  i212 := by kernel_rfl
  i232 := by kernel_rfl
  i233 := by kernel_rfl
  m17 := by kernel_rfl
  m18 := by kernel_rfl
  m19 := by kernel_rfl }
open Go.RowKit Go.Sort Go.Lib in
theorem Tryz.strconv_Itoa (n : Int) (h0 : -9223372036854775808 ≤ n) (h1 : n ≤ 9223372036854775807) (w : World) (htab : Lib.TabIs Tryz.prog w "internal/strconv.uint64pow10" .u64 Lib.pow10Tab) :
 Calls Tryz.prog 43 #[.int .i64 n] w fun e w' => e = .returned (.string ⟨(Lib.itoa n).toArray⟩) ∧ ∃ k os, w' = grow (w.drewN k) os := Any.strconv_Itoa Tryz.laysM171 n h0 h1 w htab
end Go.Proofs
end

section
namespace Go.Proofs
open Go.Shelf
def Tryz.laysC172_ren : Go.Shelf.Ren := ⟨fun | 172 => 57 | 244 => 92 | 245 => 93 | 247 => 128 | 279 => 129 | 280 => 130 | 281 => 131 | 282 => 132 | 287 => 157 | 316 => 158 | 171 => 43 | 205 => 159 | 321 => 175 | 322 => 176 | 243 => 84 | 246 => 113 | 283 => 147 | 284 => 148 | 285 => 149 | 286 => 150 | 129 => 124 | 317 => 170 | 318 => 171 | 319 => 172 | 320 => 173 | 337 => 180 | 338 => 181 | n => n, fun | 9 => 9 | 3 => 3 | 75 => 29 | 76 => 122 | 4 => 4 | 5 => 5 | 167 => 181 | 37 => 45 | 0 => 0 | 85 => 182 | 2 => 2 | 168 => 184 | 53 => 180 | 175 => 207 | 46 => 130 | 210 => 211 | 127 => 168 | 145 => 225 | 143 => 223 | 21 => 21 | 171 => 197 | 173 => 199 | 212 => 217 | 51 => 154 | 20 => 20 | 213 => 218 | 232 => 232 | 233 => 233 | 80 => 149 | n => n, fun | 15 => 2 | 16 => 3 | 17 => 4 | 18 => 7 | 19 => 8 | n => n⟩
theorem Tryz.laysC172 : Go.Proofs.LaysC.n172 Tryz.prog Tryz.laysC172_ren := {
  mixed := by kernel_rfl
  f129 := Tryz.func124.trans (congrArg some (by kernel_rfl))
  f171 := Tryz.func43.trans (congrArg some (by kernel_rfl))
  f172 := Tryz.func57.trans (congrArg some (by kernel_rfl))
  f205 := Tryz.func159.trans (congrArg some (by kernel_rfl))
  f243 := Tryz.func84.trans (congrArg some (by kernel_rfl))
  f244 := Tryz.func92.trans (congrArg some (by kernel_rfl))
  f245 := Tryz.func93.trans (congrArg some (by kernel_rfl))
  f246 := Tryz.func113.trans (congrArg some (by kernel_rfl))
  f247 := Tryz.func128.trans (congrArg some (by kernel_rfl))
  f279 := Tryz.func129.trans (congrArg some (by kernel_rfl))
  f280 := Tryz.func130.trans (congrArg some (by kernel_rfl))
  f281 := Tryz.func131.trans (congrArg some (by kernel_rfl))
  f282 := Tryz.func132.trans (congrArg some (by kernel_rfl))
  f283 := Tryz.func147.trans (congrArg some (by kernel_rfl))
  f284 := Tryz.func148.trans (congrArg some (by kernel_rfl))
  f285 := Tryz.func149.trans (congrArg some (by kernel_rfl))
  f286 := Tryz.func150.trans (congrArg some (by kernel_rfl))
  f287 := Tryz.func157.trans (congrArg some (by kernel_rfl))
  f316 := Tryz.func158.trans (congrArg some (by kernel_rfl))
  f317 := Tryz.func170.trans (congrArg some (by kernel_rfl))
  f318 := Tryz.func171.trans (congrArg some (by kernel_rfl))
  f319 := Tryz.func172.trans (congrArg some (by kernel_rfl))
  f320 := Tryz.func173.trans (congrArg some (by kernel_rfl))
  f321 := Tryz.func175.trans (congrArg some (by kernel_rfl))
  f322 := Tryz.func176.trans (congrArg some (by kernel_rfl))
  f337 := Tryz.func180.trans (congrArg some (by kernel_rfl))
  f338 := Tryz.func181.trans (congrArg some (by kernel_rfl))
  t0 := Tryz.underlying0
  a0 := Tryz.isAgg0
  z0 := Tryz.sizeOf0
  v0 := Tryz.zeroValue0
  t2 := Tryz.underlying2
  a2 := Tryz.isAgg2
  z2 := Tryz.sizeOf2
  v2 := Tryz.zeroValue2
  t3 := Tryz.underlying3
  a3 := Tryz.isAgg3
  z3 := Tryz.sizeOf3
  v3 := Tryz.zeroValue3
  t4 := Tryz.underlying4
  a4 := Tryz.isAgg4
  z4 := Tryz.sizeOf4
  v4 := Tryz.zeroValue4
  t5 := Tryz.underlying5
  a5 := Tryz.isAgg5
  z5 := Tryz.sizeOf5
  v5 := Tryz.zeroValue5
  t9 := Tryz.underlying9
  a9 := Tryz.isAgg9
  z9 := Tryz.sizeOf9
  v9 := Tryz.zeroValue9
  t20 := Tryz.underlying20
  a20 := Tryz.isAgg20
  z20 := Tryz.sizeOf20
  v20 := Tryz.zeroValue20
  t21 := Tryz.underlying21
  a21 := Tryz.isAgg21
  z21 := Tryz.sizeOf21
  v21 := Tryz.zeroValue21
  t37 := Tryz.underlying45
  a37 := Tryz.isAgg45
  z37 := Tryz.sizeOf45
  v37 := Tryz.zeroValue45
  t46 := Tryz.underlying130
  a46 := Tryz.isAgg130
  z46 := Tryz.sizeOf130
  v46 := Tryz.zeroValue130
  t51 := Tryz.underlying154
  a51 := Tryz.isAgg154
  z51 := Tryz.sizeOf154
  v51 := Tryz.zeroValue154
  t53 := Tryz.underlying180
  a53 := Tryz.isAgg180
  z53 := Tryz.sizeOf180
  v53 := Tryz.zeroValue180
  t75 := Tryz.underlying29
  a75 := Tryz.isAgg29
  z75 := Tryz.sizeOf29
  v75 := Tryz.zeroValue29
  t76 := Tryz.underlying122
  a76 := Tryz.isAgg122
  z76 := Tryz.sizeOf122
  v76 := Tryz.zeroValue122
  t85 := Tryz.underlying182
  a85 := Tryz.isAgg182
  z85 := Tryz.sizeOf182
  v85 := Tryz.zeroValue182
  t127 := Tryz.underlying168
  a127 := Tryz.isAgg168
  z127 := Tryz.sizeOf168
  v127 := Tryz.zeroValue168
  t143 := Tryz.underlying223
  a143 := Tryz.isAgg223
  z143 := Tryz.sizeOf223
  v143 := Tryz.zeroValue223
  t145 := Tryz.underlying225
  a145 := Tryz.isAgg225
  z145 := Tryz.sizeOf225
  v145 := Tryz.zeroValue225
  t167 := Tryz.underlying181
  a167 := Tryz.isAgg181
  z167 := Tryz.sizeOf181
  v167 := Tryz.zeroValue181
  t168 := Tryz.underlying184
  a168 := Tryz.isAgg184
  z168 := Tryz.sizeOf184
  v168 := Tryz.zeroValue184
  t171 := Tryz.underlying197
  a171 := Tryz.isAgg197
  z171 := Tryz.sizeOf197
  v171 := Tryz.zeroValue197
  t173 := Tryz.underlying199
  a173 := Tryz.isAgg199
  z173 := Tryz.sizeOf199
  v173 := Tryz.zeroValue199
  t175 := Tryz.underlying207
  a175 := Tryz.isAgg207
  z175 := Tryz.sizeOf207
  v175 := Tryz.zeroValue207
  t210 := Tryz.underlying211
  a210 := Tryz.isAgg211
  z210 := Tryz.sizeOf211
  v210 := Tryz.zeroValue211
  t212 := Tryz.underlying217
  a212 := Tryz.isAgg217
  z212 := Tryz.sizeOf217
  v212 := Tryz.zeroValue217
  t213 := Tryz.underlying218
  a213 := Tryz.isAgg218
  z213 := Tryz.sizeOf218
  t232 := Tryz.underlying232
  a232 := Tryz.isAgg232
  z232 := Tryz.sizeOf232
  v232 := Tryz.zeroValue232
  t233 := Tryz.underlying233
  a233 := Tryz.isAgg233
  z233 := Tryz.sizeOf233
  v233 := Tryz.zeroValue233
  g15 := by kernel_rfl
  g16 := by kernel_rfl
  g17 := by kernel_rfl
  g18 := by kernel_rfl
  g19 := by kernel_rfl
  t80 := Tryz.underlying149
  a80 := Tryz.isAgg149
  z80 := Tryz.sizeOf149
  v80 := Tryz.zeroValue149
  i0 := by kernel_rfl
  i2 := by kernel_rfl
  i3 := by kernel_rfl
  i4 := by kernel_rfl
  i5 := by kernel_rfl
  i9 := by kernel_rfl
  i20 := by kernel_rfl
  i21 := by kernel_rfl
  i37 := by kernel_rfl
  i46 := by kernel_rfl
  i51 := by kernel_rfl
  i53 := by kernel_rfl
  i75 := by kernel_rfl
  i76 := by kernel_rfl
  i80 := by kernel_rfl
  i85 := by kernel_rfl
  i127 := by kernel_rfl
  i143 := by kernel_rfl
  i145 := by kernel_rfl
  i167 := by kernel_rfl
  i168 := by kernel_rfl
  i171 := by kernel_rfl
  i173 := by kernel_rfl
  i175 := by kernel_rfl
  i210 := by kernel_rfl
  i212 := by kernel_rfl
  i232 := by kernel_rfl
  i233 := by kernel_rfl
  m15 := by kernel_rfl
  m16 := by kernel_rfl
  m17 := by kernel_rfl
  m18 := by kernel_rfl
  m19 := by kernel_rfl
  c0 := by kernel_rfl
  c2 := by kernel_rfl
  c3 := by kernel_rfl
  c4 := by kernel_rfl
  c5 := by kernel_rfl
  c9 := by kernel_rfl
  c20 := by kernel_rfl
  c21 := by kernel_rfl
  c37 := by kernel_rfl
  c46 := by kernel_rfl
  c51 := by kernel_rfl
  c53 := by kernel_rfl
  c75 := by kernel_rfl
  c76 := by kernel_rfl
  c80 := by kernel_rfl
  c85 := by kernel_rfl
  c127 := by kernel_rfl
  c143 := by kernel_rfl
  c145 := by kernel_rfl
  c167 := by kernel_rfl
  c168 := by kernel_rfl
  c171 := by kernel_rfl
  c173 := by kernel_rfl
  c175 := by kernel_rfl
  c210 := by kernel_rfl
  c212 := by kernel_rfl
  c213 := by kernel_rfl
  c232 := by kernel_rfl
  c233 := by kernel_rfl }
open Go.RowKit in
theorem Tryz.strconv_Atoi_ok (s : ByteArray) (hmax : s.size ≤ 9223372036854775806) (v : Int) (h : Lib.atoiAll s.data.toList = .ok v) (w : World) :
 Calls Tryz.prog 57 #[.string s] w fun e w' => e = .returned (.tuple #[.int .i64 v, .nilIface]) ∧ (w' = w ∨ ∃ t, w' = Lib.bytesWorld w 5 t) := Any.strconv_Atoi_ok Tryz.laysC172 s hmax v h w
open Go.RowKit in
theorem Tryz.strconv_Atoi_range_var (s : ByteArray) (hlim : s.size ≤ 281474976710656) (h : Lib.atoiAll s.data.toList = .range) (tp : TypeId) (p : Value) (w : World) (hvar : w.var? Tryz.prog "strconv.ErrRange" = some #[.iface tp p]) :
 Calls Tryz.prog 57 #[.string s] w fun e w' => ∃ N, e = .returned (.tuple #[.int .i64 (Lib.atoiSat s.data.toList), .iface 184 (.pointer (some ⟨N, 0, none⟩))]) ∧ w.heap.size ≤ N ∧ w'.heap[N]? = some (.cells #[.string ⟨#[65, 116, 111, 105]⟩, .string s, .iface tp p] 211 (0, 0)) ∧ Below w.heap.size w w' := Any.strconv_Atoi_range_var Tryz.laysC172 s hlim h tp p w hvar
end Go.Proofs
end

section
namespace Go.Proofs.YtpkhbhdidkkebaaGreatDoor
namespace Dg
open Pl Ad
set_option linter.unusedVariables false
/-! ### words -/
def kList : List Int := [1116352408, 1899447441, 3049323471, 3921009573, 961987163, 1508970993, 2453635748, 2870763221, 3624381080, 310598401, 607225278, 1426881987, 1925078388, 2162078206, 2614888103, 3248222580, 3835390401, 4022224774, 264347078, 604807628, 770255983, 1249150122, 1555081692, 1996064986, 2554220882, 2821834349, 2952996808, 3210313671, 3336571891, 3584528711, 113926993, 338241895, 666307205, 773529912, 1294757372, 1396182291, 1695183700, 1986661051, 2177026350, 2456956037, 2730485921, 2820302411, 3259730800, 3345764771, 3516065817, 3600352804, 4094571909, 275423344, 430227734, 506948616, 659060556, 883997877, 958139571, 1322822218, 1537002063, 1747873779, 1955562222, 2024104815, 2227730452, 2361852424, 2428436474, 2756734187, 3204031479, 3329325298]
def kAt (n : Nat) : Int := kList.getD n 0
def wvals (l : List Int) : Array Value := (l.map (Value.int .u32)).toArray
theorem wvals_at {l : List Int} {i : Nat} (h : i < l.length) : (wvals l)[i]? = some (.int .u32 (l.getD i 0)) := by
 simp [wvals, h]
theorem wvals_set (l : List Int) (i : Nat) (x : Int) : (wvals l).setIfInBounds i (.int .u32 x) = wvals (l.set i x) := by simp [wvals]
theorem wvals_size (l : List Int) : (wvals l).size = l.length := by simp [wvals]
theorem wvals_one (l : List Int) : (wvals l).all (·.oneCell') = true := by
 simp [wvals, Value.oneCell']
def rotN (x n : Int) : Int := bits .or .u32 (x / 2 ^ n.toNat) (x * 2 ^ (32 - n.toNat) % 4294967296)
theorem or_comm32 (x y : Int) : bits .or .u32 x y = bits .or .u32 y x := by simp only [bits, BitVec.or_comm]
def wordB (a b c d : UInt8) : Int := bits .or .u32 (bits .or .u32 (bits .or .u32 ((a.toNat : Int) * 16777216) ((b.toNat : Int) * 65536)) ((c.toNat : Int) * 256)) (d.toNat : Int)
def wAt (l : List Int) (i : Nat) : Int := l.getD i 0
/-- The next word of a schedule. -/
def sg1 (x : Int) : Int := bits .xor .u32 (bits .xor .u32 (rotN x 17) (rotN x 19)) (x / 1024)
def sg0 (y : Int) : Int := bits .xor .u32 (bits .xor .u32 (rotN y 7) (rotN y 18)) (y / 8)
def nextW (l : List Int) (t : Nat) : Int := (sg1 (wAt l (t - 2)) + wAt l (t - 7) + sg0 (wAt l (t - 15)) + wAt l (t - 16)) % 4294967296
theorem wordB_wrap (a b c d : UInt8) : bits .or .u32 (bits .or .u32 (bits .or .u32 ((a.toNat : Int) % 4294967296 * 16777216 % 4294967296) ((b.toNat : Int) % 4294967296 * 65536 % 4294967296)) ((c.toNat : Int) % 4294967296 * 256 % 4294967296)) ((d.toNat : Int) % 4294967296) = wordB a b c d := by
 have ha := byte_lt a
 have hb := byte_lt b
 have hc := byte_lt c
 have hd := byte_lt d
 rw [Int.emod_eq_of_lt (show 0 ≤ (a.toNat : Int) by omega) (by omega), Int.emod_eq_of_lt (show 0 ≤ (b.toNat : Int) by omega) (by omega), Int.emod_eq_of_lt (show 0 ≤ (c.toNat : Int) by omega) (by omega), Int.emod_eq_of_lt (show 0 ≤ (d.toNat : Int) by omega) (by omega),
   Int.emod_eq_of_lt (show 0 ≤ (a.toNat : Int) * 16777216 by omega) (by omega), Int.emod_eq_of_lt (show 0 ≤ (b.toNat : Int) * 65536 by omega) (by omega), Int.emod_eq_of_lt (show 0 ≤ (c.toNat : Int) * 256 by omega) (by omega)]
 rfl
/-- The first words of a block's schedule. -/
def schedL (b : Bs) : Nat → List Int
  | 0 => []
  | t + 1 => schedL b t ++ [if t < 16 then wordB (b.getD (4 * t) 0) (b.getD (4 * t + 1) 0) (b.getD (4 * t + 2) 0) (b.getD (4 * t + 3) 0) else nextW (schedL b t) t]
theorem schedL_len (b : Bs) (t : Nat) : (schedL b t).length = t := by
 induction t with
 | zero => rfl
 | succ t ih => rw [schedL, List.length_append, ih]; rfl
theorem getD_byte {b : Bs} {i : Nat} (h : i < b.length) : b.getD i 0 = b[i] := by simp [List.getD_eq_getElem?_getD, List.getElem?_eq_getElem h]
theorem sched_low {b : Bs} {k : Nat} (hl : b.length = 64) (hk : k < 16) : schedL b (k + 1) = schedL b k ++ [wordB (b[4 * k]'(by omega)) (b[4 * k + 1]'(by omega)) (b[4 * k + 2]'(by omega)) (b[4 * k + 3]'(by omega))] := by
 rw [schedL, if_pos hk, getD_byte (by omega), getD_byte (by omega), getD_byte (by omega), getD_byte (by omega)]
theorem sched_high {b : Bs} {k : Nat} {x y x7 x16 : Int} (hk : 16 ≤ k) (h : wAt (schedL b k) (k - 2) = x ∧ wAt (schedL b k) (k - 15) = y ∧ wAt (schedL b k) (k - 7) = x7 ∧ wAt (schedL b k) (k - 16) = x16) : schedL b (k + 1) = schedL b k ++ [(sg1 x + x7 + sg0 y + x16) % 4294967296] := by
 obtain ⟨rfl, rfl, rfl, rfl⟩ := h
 rw [schedL, if_neg (by omega)]; rfl
theorem fill_set {l : List Int} {n k : Nat} (x : Int) (hl : l.length = k) (hk : k < n) : (l ++ List.replicate (n - k) 0).set k x = (l ++ [x]) ++ List.replicate (n - (k + 1)) 0 := by
 subst hl
 obtain ⟨m, rfl⟩ : ∃ m, n = l.length + 1 + m := ⟨n - (l.length + 1), by omega⟩
 rw [show l.length + 1 + m - l.length = m + 1 by omega, show l.length + 1 + m - (l.length + 1) = m by omega, List.replicate_succ, List.set_append_right _ _ (Nat.le_refl _), Nat.sub_self, List.set_cons_zero]
 simp
theorem fill_at {l : List Int} {n k i : Nat} (hl : l.length = k) (hi : i < k) : (l ++ List.replicate (n - k) 0).getD i 0 = wAt l i := by
 unfold wAt
 simp only [List.getD_eq_getElem?_getD, List.getElem?_append_left (show i < l.length by omega)]
/-- A state of eight words. -/
structure St where
 a : Int
 b : Int
 c : Int
 d : Int
 e : Int
 f : Int
 g : Int
 h : Int
def stL (s : St) : List Int := [s.a, s.b, s.c, s.d, s.e, s.f, s.g, s.h]
def stV (s : St) : Array Value := #[.int .u32 s.a, .int .u32 s.b, .int .u32 s.c, .int .u32 s.d, .int .u32 s.e, .int .u32 s.f, .int .u32 s.g, .int .u32 s.h]
theorem stV_eq (s : St) : stV s = wvals (stL s) := rfl
def t1M (s : St) (k x : Int) : Int := (s.h + bits .xor .u32 (bits .xor .u32 (rotN s.e 6) (rotN s.e 11)) (rotN s.e 25) + bits .xor .u32 (bits .and .u32 s.e s.f) (bits .and .u32 (bits .xor .u32 IntKind.u32.max s.e) s.g) + k + x) % 4294967296
def t2M (s : St) : Int := (bits .xor .u32 (bits .xor .u32 (rotN s.a 2) (rotN s.a 13)) (rotN s.a 22) + bits .xor .u32 (bits .xor .u32 (bits .and .u32 s.a s.b) (bits .and .u32 s.a s.c)) (bits .and .u32 s.b s.c)) % 4294967296
/-- A round. -/
def roundM (s : St) (k x : Int) : St := ⟨(t1M s k x + t2M s) % 4294967296, s.a, s.b, s.c, (s.d + t1M s k x) % 4294967296, s.e, s.f, s.g⟩
def roundsM (l : List Int) (s : St) : Nat → St
  | 0 => s
  | t + 1 => roundM (roundsM l s t) (kAt t) (wAt l t)
def addW (x y : Int) : Int := (x + y) % 4294967296
def addS (v s : St) : St := ⟨addW v.a s.a, addW v.b s.b, addW v.c s.c, addW v.d s.d, addW v.e s.e, addW v.f s.f, addW v.g s.g, addW v.h s.h⟩
/-- The state after a block. -/
def mixM (s : St) (b : Bs) : St := addS (roundsM (schedL b 64) s 64) s
/-- The first i words of the sum, then those of v. -/
def sumK (v s : St) (i : Nat) : List Int := (stL (addS v s)).take i ++ (stL v).drop i
theorem sumK_len (v s : St) (i : Nat) (h : i ≤ 8) : (sumK v s i).length = 8 := by
 unfold sumK
 rw [List.length_append, List.length_take, List.length_drop]
 simp only [stL, List.length_cons, List.length_nil]
 omega
theorem sumK_set (v s : St) {i : Nat} (h : i < 8) : (sumK v s i).set i (addW ((stL v).getD i 0) ((stL s).getD i 0)) = sumK v s (i + 1) := by
 match i, h with
 | 0, _ => rfl
 | 1, _ => rfl
 | 2, _ => rfl
 | 3, _ => rfl
 | 4, _ => rfl
 | 5, _ => rfl
 | 6, _ => rfl
 | 7, _ => rfl
theorem sumK_at (v s : St) {i : Nat} (h : i < 8) : (sumK v s i).getD i 0 = (stL v).getD i 0 := by
 match i, h with
 | 0, _ => rfl
 | 1, _ => rfl
 | 2, _ => rfl
 | 3, _ => rfl
 | 4, _ => rfl
 | 5, _ => rfl
 | 6, _ => rfl
 | 7, _ => rfl
/-- All whole blocks of p, one after the other; what is left. -/
def runL (mx : St → Bs → St) (s : St) (p : Bs) : St × Bs :=
 if 64 ≤ p.length then runL mx (mx s (p.take 64)) (p.drop 64) else (s, p)
termination_by p.length
decreasing_by rw [List.length_drop]; omega
section
variable {mx : St → Bs → St}
theorem runL_end {s : St} {p : Bs} (h : ¬ 64 ≤ p.length) : runL mx s p = (s, p) := by rw [runL, if_neg h]
theorem runL_go {s : St} {p : Bs} (h : 64 ≤ p.length) : runL mx s p = runL mx (mx s (p.take 64)) (p.drop 64) := by rw [runL, if_pos h]
theorem runL_append (q : Bs) : ∀ (n : Nat) (s : St) (p : Bs), p.length ≤ n → runL mx s (p ++ q) = runL mx (runL mx s p).1 ((runL mx s p).2 ++ q) := by
 intro n
 induction n with
 | zero =>
   intro s p hp
   rw [runL_end (p := p) (by omega)]
 | succ n ih =>
   intro s p hp
   by_cases h : 64 ≤ p.length
   ·rw [runL_go h, runL_go (p := p ++ q) (by rw [List.length_append]; omega), List.take_append_of_le_length h, List.drop_append_of_le_length h]
    exact ih _ _ (by rw [List.length_drop]; omega)
   ·rw [runL_end h]
theorem runL_rest : ∀ (n : Nat) (s : St) (p : Bs), p.length ≤ n → (runL mx s p).2.length = p.length % 64 := by
 intro n
 induction n with
 | zero =>
   intro s p hp
   rw [runL_end (by omega)]
   simp only
   omega
 | succ n ih =>
   intro s p hp
   by_cases h : 64 ≤ p.length
   ·rw [runL_go h, ih _ _ (by rw [List.length_drop]; omega), List.length_drop]; omega
   ·rw [runL_end h]; simp only; omega
end
/-- Eight bytes of a number, the greatest first. -/
def be8 (n : Nat) : Bs := [56, 48, 40, 32, 24, 16, 8, 0].map fun k => UInt8.ofNat (n / 2 ^ k)
def zerosN (n : Nat) : Nat := (119 - n % 64) % 64
def tailM (n : Nat) : Bs := 128 :: (List.replicate (zerosN n) 0 ++ be8 (8 * n))
theorem tailM_len (n : Nat) : (n + (tailM n).length) % 64 = 0 := by
 unfold tailM zerosN be8
 simp only [List.length_cons, List.length_append, List.length_replicate, List.length_map, List.length_nil]
 omega
def initS : St := ⟨1779033703, 3144134277, 1013904242, 2773480762, 1359893119, 2600822924, 528734635, 1541459225⟩
def word4 (x : Int) : Bs := [UInt8.ofNat (x / 16777216 % 256).toNat, UInt8.ofNat (x / 65536 % 256).toNat, UInt8.ofNat (x / 256 % 256).toNat, UInt8.ofNat (x % 256).toNat]
def outM (s : St) : Bs := word4 s.a ++ word4 s.b ++ word4 s.c ++ word4 s.d ++ word4 s.e ++ word4 s.f ++ word4 s.g ++ word4 s.h
def sumM (mx : St → Bs → St) (m : Bs) : Bs := outM (runL mx initS (m ++ tailM m.length)).1
theorem sumM_len (mx : St → Bs → St) (m : Bs) : (sumM mx m).length = 32 := rfl
def padK (k : Bs) (x : UInt8) : Bs := (k ++ List.replicate (64 - k.length) 0).map (· ^^^ x)
def keyM (mx : St → Bs → St) (k : Bs) : Bs := if 64 < k.length then sumM mx k else k
theorem keyM_len (mx : St → Bs → St) (k : Bs) : (keyM mx k).length ≤ 64 := by
 unfold keyM; split
 ·rw [sumM_len]; omega
 ·omega
def hmacM (mx : St → Bs → St) (key t : Bs) : Bs := sumM mx (padK (keyM mx key) 92 ++ sumM mx (padK (keyM mx key) 54 ++ t))
theorem hmacM_len (mx : St → Bs → St) (key t : Bs) : (hmacM mx key t).length = 32 := rfl
def hexDig : Bs := [48, 49, 50, 51, 52, 53, 54, 55, 56, 57, 97, 98, 99, 100, 101, 102]
def hexL (l : Bs) : Bs := l.flatMap fun b => [hexDig.getD (b.toNat / 16) 0, hexDig.getD (b.toNat % 16) 0]
theorem hexL_len (l : Bs) : (hexL l).length = 2 * l.length := by
 induction l with
 | nil => rfl
 | cons b t ih =>
   show (_ ++ hexL t).length = _
   rw [List.length_append, ih, List.length_cons]; simp only [List.length_cons, List.length_nil]; omega
theorem hexL_snoc (l : Bs) (b : UInt8) : hexL (l ++ [b]) = hexL l ++ [hexDig.getD (b.toNat / 16) 0, hexDig.getD (b.toNat % 16) 0] := by simp [hexL]
theorem hexDig_ok (n : Nat) (h : n < 16) : hexc (hexDig.getD n 0) = true := by
 have g : ∀ k : Fin 16, hexc (hexDig.getD k.val 0) = true := by decide +kernel
 exact g ⟨n, h⟩
theorem hexL_all (l : Bs) : ∀ b ∈ hexL l, hexc b = true := by
 intro b hb
 obtain ⟨x, _, hx⟩ := List.mem_flatMap.1 hb
 have := x.toNat_lt
 rcases List.mem_cons.1 hx with rfl | hx
 ·exact hexDig_ok _ (by omega)
 ·rw [List.mem_singleton.1 hx]; exact hexDig_ok _ (by omega)
/-- The signature of a text. -/
def sigM (mx : St → Bs → St) (sec t : Bs) : Bs := hexL ((hmacM mx sec t).take 16)
theorem sigM_len (mx : St → Bs → St) (sec t : Bs) : (sigM mx sec t).length = 32 := by
 unfold sigM; rw [hexL_len, List.length_take, hmacM_len]; rfl
theorem sigM_hex (mx : St → Bs → St) (sec t : Bs) : hexOk (sigM mx sec t) = true := by
 unfold hexOk
 rw [Bool.and_eq_true, decide_eq_true_eq]
 exact ⟨List.all_eq_true.2 fun b hb => hexL_all _ b hb, sigM_len mx sec t⟩
end Dg
end Go.Proofs.YtpkhbhdidkkebaaGreatDoor
end

