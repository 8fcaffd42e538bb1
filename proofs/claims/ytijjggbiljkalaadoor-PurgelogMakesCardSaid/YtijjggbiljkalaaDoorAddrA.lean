/- Contract: address.Parse where host and path are in form. Conditions: texts of at most 2^29 bytes. -/
import Derived.Test.YtijjggbiljkalaaDoorAddr9
namespace Go.Proofs.YtijjggbiljkalaaDoor
open Go.RowKit Pl Ad
attribute [local go_sem] ba_get conv_one conv_one_drewN ba_append ba_extract
set_option maxRecDepth 100000
set_option maxHeartbeats 4000000
set_option linter.unusedVariables false
namespace A1
theorem optS_some (l : Bs) : optS (some l) = l := rfl
attribute [local go_sem] optS_some
theorem parse_canon (h t p q : Bs) (has : Bool) (w : World) (hh : h.length ≤ 536870912) (ht : t.length ≤ 536870912) (hp : p.length ≤ 536870912) (hq : q.length ≤ 536870912) (hr : Ready w) (hk : hostOk h = true) (hs : cutAt 63 t = (47 :: p, q, has)) (hc : canon (47 :: p) marksP = none ∨ canon q marksQ = none) :
    Calls Tryd.prog 72 #[.string ⟨h.toArray⟩, .string ⟨t.toArray⟩] w fun e w' => e = .returned (.tuple #[ad0, errV 27]) ∧ Below w.heap.size w w' := by
  have HE := Lib.hid (hostE_yes h hk)
  clear hk
  have HT := Lib.hid hs
  clear hs
  have hbx := box_new w 114 (.string ⟨#[]⟩) (.string ⟨#[]⟩) (.string ⟨#[]⟩) (.bool false)
  have HBX := Lib.hid hbx
  have hbz := (Below.refl w.heap.size w).alloc (Nat.le_refl _) (.cells #[.string ⟨#[]⟩, .string ⟨#[]⟩, .string ⟨#[]⟩, .bool false] 114)
  have HBZ := Lib.hid hbz
  have HRD := Lib.hid (hr.below hbz)
  clear hbx hr hbz
  go_enter Tryd.func72, Tryd.ntmps72
  go_wp2_with fail
  refine (host_any h _ (by omega) HRD.out).mono ?_
  rintro e w1 ⟨rfl, hb1⟩
  rw [HE.out]
  go_wp2_with fail
  refine (cut_any t 63 _ (by omega) (HRD.out.below hb1)).mono ?_
  rintro e w2 ⟨rfl, hb2⟩
  rw [HT.out]
  go_wp2_with fail
  refine (canonical_any (47 :: p) marksP _ (by simp; omega) (by decide)).mono ?_
  rintro e w3 ⟨rfl, hb3⟩
  have HT3 := Lib.hid (hb2.trans (hb3.mono hb2.size))
  go_wp2_with fail
  refine (canonical_any q marksQ _ (by omega) (by decide)).mono ?_
  rintro e w4 ⟨rfl, hb4⟩
  have hb24 := HT3.out.trans (hb4.mono HT3.out.size)
  have hb14 := hb1.trans (hb24.mono hb1.size)
  have hz14 := hb14.size
  clear hb2 hb3 hb4
  obtain ⟨⟨c0, c1, c2, c3⟩, ⟨f0, f1, f2, f3⟩, hsz⟩ := (HBX.out.below hb14 (by simp)).facts
  have hb := HBZ.out.trans (hb14.mono (by simp))
  cases hcp : canon (47 :: p) marksP with
  | none =>
    go_wp2_with fail
    refine bodyPost_ret (v := .tuple #[ad0, errV 27]) (by simp [results, Tryd.results72, go_sem, c0, c1, c2, c3]) rfl ⟨rfl, ?_⟩
    exact Box.set hb (Nat.le_refl _) _ _ _ _
  | some p2 =>
    have hcq : canon q marksQ = none := by rcases hc with hc | hc; (· rw [hcp] at hc; cases hc); (· exact hc)
    rw [hcq]
    clear hcp hcq hc
    go_wp2_with fail
    refine bodyPost_ret (v := .tuple #[ad0, errV 27]) (by simp [results, Tryd.results72, go_sem, c0, c1, c2, c3]) rfl ⟨rfl, ?_⟩
    exact Box.set hb (Nat.le_refl _) _ _ _ _

theorem parse_dots (h t p q u q2 : Bs) (has : Bool) (w : World) (hh : h.length ≤ 536870912) (ht : t.length ≤ 536870912) (hp : p.length ≤ 536870912) (hq : q.length ≤ 536870912) (hr : Ready w) (hk : hostOk h = true) (hs : cutAt 63 t = (47 :: p, q, has)) (hc1 : canon (47 :: p) marksP = some (47 :: u)) (hc2 : canon q marksQ = some q2) :
    Calls Tryd.prog 72 #[.string ⟨h.toArray⟩, .string ⟨t.toArray⟩] w fun e w' => e = .returned (.tuple #[pathV (lower h) (splitOn 47 u) q2 has, pathE (lower h) (splitOn 47 u) q2 has]) ∧ Below w.heap.size w w' := by
  have HE := Lib.hid (hostE_yes h hk)
  have HH := Lib.hid (hostS_yes h hk)
  have hu : u.length ≤ 536870912 := by have := canon_len _ _ _ hc1; simp at this; omega
  have hq2 : q2.length ≤ 536870912 := by have := canon_len _ _ _ hc2; omega
  have hlh : (lower h).length ≤ 536870912 := by rw [lower_len]; exact hh
  clear hk
  have HT := Lib.hid hs
  clear hs
  have HC1 := Lib.hid hc1
  have HC2 := Lib.hid hc2
  clear hc1 hc2
  have hroom := room_splitOn 47 u
  have hne0 := splitOn_ne_nil 47 u
  have hcnt := splitOn_count 47 u
  have hbx := box_new w 114 (.string ⟨#[]⟩) (.string ⟨#[]⟩) (.string ⟨#[]⟩) (.bool false)
  have HBX := Lib.hid hbx
  have hbz := (Below.refl w.heap.size w).alloc (Nat.le_refl _) (.cells #[.string ⟨#[]⟩, .string ⟨#[]⟩, .string ⟨#[]⟩, .bool false] 114)
  have HBZ := Lib.hid hbz
  have HRD := Lib.hid (hr.below hbz)
  clear hbx hr hbz
  go_enter Tryd.func72, Tryd.ntmps72
  go_wp2_with fail
  refine (host_any h _ (by omega) HRD.out).mono ?_
  rintro e w1 ⟨rfl, hb1⟩
  rw [HE.out]
  go_wp2_with fail
  refine (cut_any t 63 _ (by omega) (HRD.out.below hb1)).mono ?_
  rintro e w2 ⟨rfl, hb2⟩
  rw [HT.out]
  go_wp2_with fail
  refine (canonical_any (47 :: p) marksP _ (by simp; omega) (by decide)).mono ?_
  rintro e w3 ⟨rfl, hb3⟩
  have HT3 := Lib.hid (hb2.trans (hb3.mono hb2.size))
  go_wp2_with fail
  refine (canonical_any q marksQ _ (by omega) (by decide)).mono ?_
  rintro e w4 ⟨rfl, hb4⟩
  have hb24 := HT3.out.trans (hb4.mono HT3.out.size)
  have hb14 := hb1.trans (hb24.mono hb1.size)
  have hz14 := hb14.size
  clear hb2 hb3 hb4
  rw [HC1.out, HC2.out, HH.out]
  go_wp2_with fail
  refine (split_any u 47 w4 (by omega) (HRD.out.below hb14)).mono ?_
  rintro e w5 ⟨b, c, rfl, hcap, hwb, hbw, hcells, hb5⟩
  generalize hxs0 : splitOn 47 u = xs at hcells hcap hcnt hroom hne0
  have HXS := Lib.hid hxs0
  clear hxs0
  have HNE := Lib.hid hne0
  have HR := Lib.hid hroom
  clear hne0 hroom
  have hb15 := hb14.trans (hb5.mono hz14)
  have hbf5 := HBZ.out.trans (hb15.mono (by simp))
  have hz5 := hb5.size
  have HBX5 := Lib.hid (HBX.out.below hb15 (by simp))
  clear hb5
  go_wp2_with fail
  go_loopw [13, 65] (fun s i wr => ∃ (v : Value) (k : Nat) (left : List Bs), v = s ∧ k ≤ xs.length ∧ i = .int .i64 k ∧ wr.ownsRow w5.heap.size 9 1 v left.length (svals left) ∧ Below w5.heap.size w5 wr ∧ left.length ≤ k ∧ Hid (dotsL xs [] = dotsL (xs.drop k) left) ∧ Hid (room left + room (xs.drop k) ≤ u.length + 1)) (fun _ i _ => xs.length - (intOf i).toNat)
  case atStart => exact ⟨_, 0, [], rfl, Nat.zero_le _, rfl, World.ownsRow_nil _ _ _ _, Below.refl _ _, Nat.zero_le _, rfl, by show room [] + room xs ≤ _; rw [HR.out, room_nil]; omega⟩
  case round =>
    obtain ⟨v, k, left, rfl, hk, rfl, hown, hb, hll, H, HRM⟩ := hrel
    have hz := hb.size
    have hsz1 : w.heap.size < w5.heap.size := by have := hb15.size; simp at this; omega
    by_cases hlt : k < xs.length
    · have hc0 := hcells k xs[k] (by simp [hlt])
      rw [Nat.zero_add] at hc0
      have hc := (hb.cell (p := ⟨b, k, none⟩) hbw).trans hc0
      have HD := Lib.hid (drop_cons hlt)
      generalize hx : xs[k] = x at hc HD
      clear hx hc0
      have hrd := room_dropLast left
      by_cases h2 : x = [46, 46]
      · subst h2
        by_cases hl0 : left = []
        · subst hl0
          have HF := Lib.hid (path_none (h := lower h) (q := q2) (has := has) (xs := xs) (by rw [H.out, HD.out, dotsL_up0]))
          obtain ⟨⟨c0, c1, c2, c3⟩, ⟨f0, f1, f2, f3⟩, hsz⟩ := (HBX5.out.below hb hsz1).facts
          have hbf := hbf5.trans (hb.mono (Nat.le_of_lt hsz1))
          rcases owned_cases hown with rfl | ⟨g, cp, rfl⟩
          all_goals
            go_wp2
            refine bodyPost_ret (v := .tuple #[ad0, errV 27]) (by simp [results, Tryd.results72, go_sem, c0, c1, c2, c3]) rfl ⟨?_, ?_⟩
            · rw [HXS.out, HF.out.1, HF.out.2]
            · exact Box.set hbf (Nat.le_refl _) _ _ _ _
        · have hlp : 0 < left.length := List.length_pos_iff.2 hl0
          obtain ⟨g, cp, rfl⟩ := owned_form hown hlp
          obtain ⟨_, hlc, _, _, _⟩ := cellsAt_owned left hown
          have HP := Lib.hid (owned_pop hl0 hown)
          have hln : ((left.length : Int) == 0) = false := beq_eq_false_iff_ne.2 (by omega)
          have HDL := Lib.hid (show left.dropLast.length = left.length - 1 from List.length_dropLast)
          have hi1 : ((left.length : Int) - 1).toNat = left.length - 1 := by omega
          by_cases hend : k + 1 = xs.length
          · have hend1 : ((k : Int) == (xs.length : Int) - 1) = true := beq_iff_eq.2 (by omega)
            have HDE := Lib.hid (show xs.drop (k + 1) = [] from List.drop_of_length_le (by omega))
            clear hend
            have hpop := HP.out
            go_wp2_with ((at_builtin; refine wpList_app tyStrs rfl _ _ rfl w5 w5.heap.size w5.heap.size (.slice (some ⟨g, 0, none⟩) (left.length - 1) cp) (left.length - 1) (svals left.dropLast) rfl (hpop.alloc _) (hb.alloc (by omega) _) (by simp; omega) (Nat.le_refl _) wr.heap.size 1 1 [str []] rfl (blockIs_new _ _ _) rfl (by simp [Value.oneCell']) (by omega) ?_; intro v' w' hown' hb' hgrow'))
            go_roundw
            case rel => exact ⟨_, k + 1, left.dropLast ++ [[]], rfl, by omega, by go_num, by rw [List.length_append, ← svals_append, HDL.out]; exact hown', hb', by rw [List.length_append, HDL.out]; simp; omega, by show dotsL xs [] = _; rw [H.out, HD.out, HDE.out, dotsL_upEnd left hl0], by show room _ + _ ≤ _; have h9 := HRM.out; rw [HD.out, room_cons] at h9; rw [room_append, room_one]; simp at h9 ⊢; omega⟩
            case measure => simp [intOf]; omega
          · have hend1 : ((k : Int) == (xs.length : Int) - 1) = false := beq_eq_false_iff_ne.2 (by omega)
            have HDE := Lib.hid (show xs.drop (k + 1) ≠ [] from fun h => by rw [List.drop_eq_nil_iff] at h; omega)
            go_wp2
            go_roundw
            case rel => exact ⟨_, k + 1, left.dropLast, rfl, by omega, by go_num, by rw [HDL.out]; exact HP.out, hb, by rw [HDL.out]; omega, by show dotsL xs [] = _; rw [H.out, HD.out, dotsL_up _ left hl0 HDE.out], by show room _ + _ ≤ _; have h9 := HRM.out; rw [HD.out, room_cons] at h9; simp at h9 ⊢; omega⟩
            case measure => simp [intOf]; omega
      · by_cases h1 : x = [46]
        · subst h1
          by_cases hend : k + 1 = xs.length
          · have hend1 : ((k : Int) == (xs.length : Int) - 1) = true := beq_iff_eq.2 (by omega)
            have HDE := Lib.hid (show xs.drop (k + 1) = [] from List.drop_of_length_le (by omega))
            clear hend
            go_wp2_with ((at_builtin; refine wpList_app tyStrs rfl _ _ rfl w5 w5.heap.size w5.heap.size v left.length (svals left) rfl (hown.alloc _) (hb.alloc (by omega) _) (by simp; omega) (Nat.le_refl _) wr.heap.size 1 1 [str []] rfl (blockIs_new _ _ _) rfl (by simp [Value.oneCell']) (by omega) ?_; intro v' w' hown' hb' hgrow'))
            go_roundw
            case rel => exact ⟨_, k + 1, left ++ [[]], rfl, by omega, by go_num, by rw [List.length_append, ← svals_append]; exact hown', hb', by simp; omega, by show dotsL xs [] = _; rw [H.out, HD.out, HDE.out, dotsL_dotEnd], by show room _ + _ ≤ _; have h9 := HRM.out; rw [HD.out, room_cons] at h9; rw [room_append, room_one]; simp at h9 ⊢; omega⟩
            case measure => simp [intOf]; omega
          · have hend1 : ((k : Int) == (xs.length : Int) - 1) = false := beq_eq_false_iff_ne.2 (by omega)
            have HDE := Lib.hid (show xs.drop (k + 1) ≠ [] from fun h => by rw [List.drop_eq_nil_iff] at h; omega)
            go_wp2
            go_roundw
            case rel => exact ⟨_, k + 1, left, rfl, by omega, by go_num, hown, hb, by omega, by show dotsL xs [] = _; rw [H.out, HD.out, dotsL_dot _ left HDE.out], by show room _ + _ ≤ _; have h9 := HRM.out; rw [HD.out, room_cons] at h9; simp at h9 ⊢; omega⟩
            case measure => simp [intOf]; omega
        · have h1' : (x == [46]) = false := by simpa using h1
          have h2' : (x == [46, 46]) = false := by simpa using h2
          have HS := Lib.hid (dotsL_seg x (xs.drop (k + 1)) left h2 h1)
          clear h1 h2
          go_wp2_with ((at_builtin; refine wpList_app tyStrs rfl _ _ rfl w5 w5.heap.size w5.heap.size v left.length (svals left) rfl (hown.alloc _) (hb.alloc (by omega) _) (by simp; omega) (Nat.le_refl _) wr.heap.size 1 1 [str x] rfl (blockIs_new _ _ _) rfl (by simp [Value.oneCell']) (by omega) ?_; intro v' w' hown' hb' hgrow'))
          go_roundw
          case rel => exact ⟨_, k + 1, left ++ [x], rfl, by omega, by go_num, by rw [List.length_append, ← svals_append]; exact hown', hb', by simp; omega, by show dotsL xs [] = _; rw [H.out, HD.out, HS.out], by show room _ + _ ≤ _; have h9 := HRM.out; rw [HD.out, room_cons] at h9; rw [room_append, room_one]; omega⟩
          case measure => simp [intOf]; omega
    · have HE2 := Lib.hid (show dotsL xs [] = some left by rw [H.out, List.drop_of_length_le (by omega)]; rfl)
      have HRL := Lib.hid (show room left ≤ u.length + 1 by have h9 := HRM.out; omega)
      have hl0 : left ≠ [] := dotsL_ne xs [] left HE2.out (.inl HNE.out)
      obtain ⟨g, cp, rfl⟩ := owned_form hown (List.length_pos_iff.2 hl0)
      obtain ⟨_, hlc, _, hgl, hcl⟩ := cellsAt_owned left hown
      have HJ := Lib.hid (slashed_join left hl0)
      have hjl : (Lib.join left [47]).length ≤ 536870912 := by have h9 := HRL.out; rw [room, ← HJ.out] at h9; simp at h9; omega
      clear H HRM
      go_wp2_with fail
      refine (join_any g cp left [47] wr hcl hgl (by omega) hlc (by omega)).mono ?_
      rintro e w6 ⟨rfl, hb6⟩
      have hb56 := hb.trans (hb6.mono hz)
      have hz6 := hb6.size
      clear hcl hown
      go_wp2_with fail
      rw [HJ.out]
      have hsl : (slashed left).length ≤ 536870913 := by have h9 := HRL.out; unfold room at h9; omega
      refine (text_any (lower h) (slashed left) q2 has _ (by omega) (by omega) (by omega)).mono ?_
      rintro e w7 ⟨rfl, hb7⟩
      have hbl := box_new w6 114 (.string ⟨(lower h).toArray⟩) (.string ⟨(slashed left).toArray⟩) (.string ⟨q2.toArray⟩) (.bool has)
      obtain ⟨⟨d0, d1, d2, d3⟩, ⟨_, _, _, _⟩, _⟩ := (hbl.below hb7 (by simp)).facts
      have hb57 := hb56.trans (((Below.refl w6.heap.size w6).alloc (Nat.le_refl _) (.cells #[.string ⟨(lower h).toArray⟩, .string ⟨(slashed left).toArray⟩, .string ⟨q2.toArray⟩, .bool has] 114)).trans (hb7.mono (by simp)) |>.mono (by have := hb56.size; omega))
      obtain ⟨⟨c0, c1, c2, c3⟩, ⟨f0, f1, f2, f3⟩, hsz⟩ := (HBX5.out.below hb57 hsz1).facts
      have hbf := hbf5.trans (hb57.mono (Nat.le_of_lt hsz1))
      clear hbl
      by_cases hlg : (adText (lower h) (slashed left) q2 has).length > 1024
      · have HF := Lib.hid (path_large HE2.out hlg)
        go_wp2_with fail
        refine bodyPost_ret (v := .tuple #[ad0, errV 5]) (by simp [results, Tryd.results72, go_sem, c0, c1, c2, c3]) rfl ⟨?_, ?_⟩
        · rw [HXS.out, HF.out.1, HF.out.2]
        · exact Box.set hbf (Nat.le_refl _) _ _ _ _
      · have HF := Lib.hid (path_ok HE2.out hlg)
        go_wp2_with fail
        refine bodyPost_ret (v := .tuple #[adV ⟨lower h, slashed left, q2, has⟩, .nilIface]) (by simp [results, Tryd.results72, go_sem, c0, c1, c2, c3]) rfl ⟨?_, ?_⟩
        · rw [HXS.out, HF.out.1, HF.out.2]
        · exact Box.set hbf (Nat.le_refl _) _ _ _ _
end A1
end Go.Proofs.YtijjggbiljkalaaDoor
