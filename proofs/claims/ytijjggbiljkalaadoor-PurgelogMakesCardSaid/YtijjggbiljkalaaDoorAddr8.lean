/- Contract: the reference's dots. Conditions: texts of at most 2^31 bytes. -/
import Derived.Test.YtijjggbiljkalaaDoorAddrQ
import Derived.Test.YtijjggbiljkalaaDoorAddr7
namespace Go.Proofs.YtijjggbiljkalaaDoor
open Go.RowKit Pl Ad
attribute [local go_sem] ba_get conv_one conv_one_drewN ba_append ba_extract
set_option maxRecDepth 100000
set_option maxHeartbeats 4000000
set_option linter.unusedVariables false
namespace A1

theorem refDots_any (u : Bs) (w : World) (hl : u.length ≤ 1073741824) :
    Calls Tryd.prog 117 #[.string ⟨(47 :: u).toArray⟩] w fun e w' => e = .returned (.tuple #[.string ⟨(optS (dotsR (splitOn 47 u))).toArray⟩, .bool (dotsR (splitOn 47 u)).isSome]) ∧ Below w.heap.size w w' := by
  have hroom := room_splitOn 47 u
  have hne0 := splitOn_ne_nil 47 u
  go_enter Tryd.func117, Tryd.ntmps117
  go_wp2_with fail
  refine (refCut_any u 47 w (by omega)).mono ?_
  rintro e w1 ⟨b, c, rfl, hcap, hwb, hbw, hcells, hb1⟩
  have hcnt := splitOn_count 47 u
  generalize hxs0 : splitOn 47 u = xs at hcells hcap hcnt hroom hne0
  have HXS := Lib.hid hxs0
  clear hxs0
  have HNE := Lib.hid hne0
  clear hne0
  have HR := Lib.hid hroom
  clear hroom
  go_wp2_with fail
  have hz1 := hb1.size
  go_loopw [5, 14] (fun s i wr => ∃ (v : Value) (k : Nat) (left : List Bs), v = s ∧ k ≤ xs.length ∧ i = .int .i64 k ∧ wr.ownsRow w1.heap.size 9 1 v left.length (svals left) ∧ Below w1.heap.size w1 wr ∧ left.length ≤ k ∧ Hid (dotsL xs [] = dotsL (xs.drop k) left) ∧ Hid (room left + room (xs.drop k) ≤ u.length + 1)) (fun _ i _ => xs.length - (intOf i).toNat)
  case atStart => exact ⟨_, 0, [], rfl, Nat.zero_le _, rfl, World.ownsRow_nil _ _ _ _, Below.refl _ _, Nat.zero_le _, rfl, by show room [] + room xs ≤ _; rw [HR.out, room_nil]; omega⟩
  case round =>
    obtain ⟨v, k, left, rfl, hk, rfl, hown, hb, hll, H, HRM⟩ := hrel
    have hz := hb.size
    by_cases hlt : k < xs.length
    · have hc0 := hcells k xs[k] (by simp [hlt])
      rw [Nat.zero_add] at hc0
      have hc := (hb.cell (p := ⟨b, k, none⟩) hbw).trans hc0
      have HD := Lib.hid (drop_cons hlt)
      generalize hx : xs[k] = x at hc HD
      clear hx hc0
      have hrd := room_dropLast left
      by_cases h2 : x = [46, 46]
      · subst h2
        by_cases hl0 : left = []
        · subst hl0
          have HF := Lib.hid (dotsR_none (by rw [H.out, HD.out, dotsL_up0]))
          rcases owned_cases hown with rfl | ⟨g, cp, rfl⟩
          all_goals
            go_wp2
            go_ret2
            exact ⟨by rw [HXS.out, HF.out]; rfl, hb1.trans (hb.mono hz1)⟩
        · have hlp : 0 < left.length := List.length_pos_iff.2 hl0
          obtain ⟨g, cp, rfl⟩ := owned_form hown hlp
          obtain ⟨_, hlc, _, _, _⟩ := cellsAt_owned left hown
          have hpop := owned_pop hl0 hown
          have hln : ((left.length : Int) == 0) = false := beq_eq_false_iff_ne.2 (by omega)
          have hdl : left.dropLast.length = left.length - 1 := List.length_dropLast
          have hi1 : ((left.length : Int) - 1).toNat = left.length - 1 := by omega
          have HP := Lib.hid hpop
          have HDL := Lib.hid hdl
          clear hpop hdl
          by_cases hend : k + 1 = xs.length
          · have hend1 : ((k : Int) == (xs.length : Int) - 1) = true := beq_iff_eq.2 (by omega)
            have HDE := Lib.hid (show xs.drop (k + 1) = [] from List.drop_of_length_le (by omega))
            clear hend
            have hpop := HP.out
            go_wp2_with ((at_builtin; refine wpList_app tyStrs rfl _ _ rfl w1 w1.heap.size w1.heap.size (.slice (some ⟨g, 0, none⟩) (left.length - 1) cp) (left.length - 1) (svals left.dropLast) rfl (hpop.alloc _) (hb.alloc (by omega) _) (by simp; omega) (Nat.le_refl _) wr.heap.size 1 1 [str []] rfl (blockIs_new _ _ _) rfl (by simp [Value.oneCell']) (by omega) ?_; intro v' w' hown' hb' hgrow'))
            go_roundw
            case rel => exact ⟨_, k + 1, left.dropLast ++ [[]], rfl, by omega, by go_num, by rw [List.length_append, ← svals_append, HDL.out]; exact hown', hb', by rw [List.length_append, HDL.out]; simp; omega, by show dotsL xs [] = _; rw [H.out, HD.out, HDE.out, dotsL_upEnd left hl0], by show room _ + _ ≤ _; have h9 := HRM.out; rw [HD.out, room_cons] at h9; rw [room_append, room_one]; simp at h9 ⊢; omega⟩
            case measure => simp [intOf]; omega
          · have hend1 : ((k : Int) == (xs.length : Int) - 1) = false := beq_eq_false_iff_ne.2 (by omega)
            have HDE := Lib.hid (show xs.drop (k + 1) ≠ [] from fun h => by rw [List.drop_eq_nil_iff] at h; omega)
            go_wp2
            go_roundw
            case rel => exact ⟨_, k + 1, left.dropLast, rfl, by omega, by go_num, by rw [HDL.out]; exact HP.out, hb, by rw [HDL.out]; omega, by show dotsL xs [] = _; rw [H.out, HD.out, dotsL_up _ left hl0 HDE.out], by show room _ + _ ≤ _; have h9 := HRM.out; rw [HD.out, room_cons] at h9; simp at h9 ⊢; omega⟩
            case measure => simp [intOf]; omega
      · by_cases h1 : x = [46]
        · subst h1
          by_cases hend : k + 1 = xs.length
          · have hend1 : ((k : Int) == (xs.length : Int) - 1) = true := beq_iff_eq.2 (by omega)
            have HDE := Lib.hid (show xs.drop (k + 1) = [] from List.drop_of_length_le (by omega))
            clear hend
            go_wp2_with ((at_builtin; refine wpList_app tyStrs rfl _ _ rfl w1 w1.heap.size w1.heap.size v left.length (svals left) rfl (hown.alloc _) (hb.alloc (by omega) _) (by simp; omega) (Nat.le_refl _) wr.heap.size 1 1 [str []] rfl (blockIs_new _ _ _) rfl (by simp [Value.oneCell']) (by omega) ?_; intro v' w' hown' hb' hgrow'))
            go_roundw
            case rel => exact ⟨_, k + 1, left ++ [[]], rfl, by omega, by go_num, by rw [List.length_append, ← svals_append]; exact hown', hb', by simp; omega, by show dotsL xs [] = _; rw [H.out, HD.out, HDE.out, dotsL_dotEnd], by show room _ + _ ≤ _; have h9 := HRM.out; rw [HD.out, room_cons] at h9; rw [room_append, room_one]; simp at h9 ⊢; omega⟩
            case measure => simp [intOf]; omega
          · have hend1 : ((k : Int) == (xs.length : Int) - 1) = false := beq_eq_false_iff_ne.2 (by omega)
            have HDE := Lib.hid (show xs.drop (k + 1) ≠ [] from fun h => by rw [List.drop_eq_nil_iff] at h; omega)
            go_wp2
            go_roundw
            case rel => exact ⟨_, k + 1, left, rfl, by omega, by go_num, hown, hb, by omega, by show dotsL xs [] = _; rw [H.out, HD.out, dotsL_dot _ left HDE.out], by show room _ + _ ≤ _; have h9 := HRM.out; rw [HD.out, room_cons] at h9; simp at h9 ⊢; omega⟩
            case measure => simp [intOf]; omega
        · have h1' : (x == [46]) = false := by simpa using h1
          have h2' : (x == [46, 46]) = false := by simpa using h2
          have HS := Lib.hid (dotsL_seg x (xs.drop (k + 1)) left h2 h1)
          clear h1 h2
          go_wp2_with ((at_builtin; refine wpList_app tyStrs rfl _ _ rfl w1 w1.heap.size w1.heap.size v left.length (svals left) rfl (hown.alloc _) (hb.alloc (by omega) _) (by simp; omega) (Nat.le_refl _) wr.heap.size 1 1 [str x] rfl (blockIs_new _ _ _) rfl (by simp [Value.oneCell']) (by omega) ?_; intro v' w' hown' hb' hgrow'))
          go_roundw
          case rel => exact ⟨_, k + 1, left ++ [x], rfl, by omega, by go_num, by rw [List.length_append, ← svals_append]; exact hown', hb', by simp; omega, by show dotsL xs [] = _; rw [H.out, HD.out, HS.out], by show room _ + _ ≤ _; have h9 := HRM.out; rw [HD.out, room_cons] at h9; rw [room_append, room_one]; omega⟩
          case measure => simp [intOf]; omega
    · have HE := Lib.hid (show dotsL xs [] = some left by rw [H.out, List.drop_of_length_le (by omega)]; rfl)
      have HF := Lib.hid (dotsR_some HE.out)
      have HRL := Lib.hid (show room left ≤ u.length + 1 by have h9 := HRM.out; omega)
      have hl0 : left ≠ [] := dotsL_ne xs [] left HE.out (.inl HNE.out)
      obtain ⟨g, cp, rfl⟩ := owned_form hown (List.length_pos_iff.2 hl0)
      obtain ⟨_, hlc, _, hgl, hcl⟩ := cellsAt_owned left hown
      clear H HRM
      go_wp2
      go_loop [7, 51] (fun s i => ∃ k : Nat, k ≤ left.length ∧ i = .int .i64 k ∧ s = .string ⟨(slashed (left.take k)).toArray⟩) (fun _ i => left.length - (intOf i).toNat)
      case atStart => exact ⟨0, Nat.zero_le _, rfl, rfl⟩
      case round =>
        obtain ⟨k, hk, rfl, rfl⟩ := hrel
        by_cases hlt : k < left.length
        · have hc0 := hcl k left[k] (by simp [hlt])
          rw [Nat.zero_add] at hc0
          have HT := Lib.hid (show slashed (left.take (k + 1)) = slashed (left.take k) ++ 47 :: left[k] by rw [take_snoc hlt, slashed_append, slashed_one])
          have hl1 := room_take left (k + 1)
          rw [room, HT.out, List.length_append, List.length_cons] at hl1
          have hl2 : (slashed (left.take k)).length + (left[k].length + 1) ≤ u.length + 1 := Nat.le_trans hl1 HRL.out
          clear hl1
          generalize hx : left[k] = x at hc0 HT hl2
          clear hx
          go_wp2
          go_round
          case rel => exact ⟨k + 1, by omega, by go_num, by rw [HT.out]⟩
          case measure => simp [intOf]; omega
        · have HT := Lib.hid (show slashed (left.take k) = slashed left by rw [List.take_of_length_le (by omega)])
          go_wp2
          go_ret2
          exact ⟨by rw [HXS.out, HF.out, HT.out]; rfl, hb1.trans (hb.mono hz1)⟩
end A1
end Go.Proofs.YtijjggbiljkalaaDoor
