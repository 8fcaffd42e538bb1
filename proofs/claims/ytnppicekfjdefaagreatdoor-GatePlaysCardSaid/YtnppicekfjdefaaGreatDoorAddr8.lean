/- Contract: the reference's dots. Conditions: texts of at most 2^31 bytes. Contract: address.Parse. Conditions: texts of at most 2^29 bytes. Contract: address.Parse where host and path are in form. Conditions: texts of at most 2^29 bytes. Contract: address.Parse, in one statement. Conditions: texts of at most 2^29 bytes. -/
import Derived.Test.YtnppicekfjdefaaGreatDoorAddrP
import Derived.Test.YtnppicekfjdefaaGreatDoorAddr1
section
namespace Go.Proofs.YtnppicekfjdefaaGreatDoor
open Go.RowKit Pl Ad
attribute [local go_sem] ba_get conv_one conv_one_drewN ba_append ba_extract
set_option maxRecDepth 100000
set_option maxHeartbeats 4000000
set_option linter.unusedVariables false
namespace A1

theorem refDots_any (u : Bs) (w : World) (hl : u.length ≤ 1073741824) :
    Calls Tryz.prog 74 #[.string ⟨(47 :: u).toArray⟩] w fun e w' => e = .returned (.tuple #[.string ⟨(optS (dotsR (splitOn 47 u))).toArray⟩, .bool (dotsR (splitOn 47 u)).isSome]) ∧ Below w.heap.size w w' := by
  have hroom := room_splitOn 47 u
  have hne0 := splitOn_ne_nil 47 u
  go_enter Tryz.func74, Tryz.ntmps74
  go_wp2_with fail
  refine (refCut_any u 47 w (by omega)).mono ?_
  rintro e w1 ⟨b, c, rfl, hcap, hwb, hbw, hcells, hb1⟩
  have hcnt := splitOn_count 47 u
  generalize hxs0 : splitOn 47 u = xs at hcells hcap hcnt hroom hne0
  have HXS := Lib.hid hxs0
  clear hxs0
  have HNE := Lib.hid hne0
  clear hne0
  have HR := Lib.hid hroom
  clear hroom
  go_wp2_with fail
  have hz1 := hb1.size
  go_loopw [5, 14] (fun s i wr => ∃ (v : Value) (k : Nat) (left : List Bs), v = s ∧ k ≤ xs.length ∧ i = .int .i64 k ∧ wr.ownsRow w1.heap.size 9 1 v left.length (svals left) ∧ Below w1.heap.size w1 wr ∧ left.length ≤ k ∧ Hid (dotsL xs [] = dotsL (xs.drop k) left) ∧ Hid (room left + room (xs.drop k) ≤ u.length + 1)) (fun _ i _ => xs.length - (intOf i).toNat)
  case atStart => exact ⟨_, 0, [], rfl, Nat.zero_le _, rfl, World.ownsRow_nil _ _ _ _, Below.refl _ _, Nat.zero_le _, rfl, by show room [] + room xs ≤ _; rw [HR.out, room_nil]; omega⟩
  case round =>
    obtain ⟨v, k, left, rfl, hk, rfl, hown, hb, hll, H, HRM⟩ := hrel
    have hz := hb.size
    by_cases hlt : k < xs.length
    · have hc0 := hcells k xs[k] (by simp [hlt])
      rw [Nat.zero_add] at hc0
      have hc := (hb.cell (p := ⟨b, k, none⟩) hbw).trans hc0
      have HD := Lib.hid (drop_cons hlt)
      generalize hx : xs[k] = x at hc HD
      clear hx hc0
      have hrd := room_dropLast left
      by_cases h2 : x = [46, 46]
      · subst h2
        by_cases hl0 : left = []
        · subst hl0
          have HF := Lib.hid (dotsR_none (by rw [H.out, HD.out, dotsL_up0]))
          rcases owned_cases hown with rfl | ⟨g, cp, rfl⟩
          all_goals
            go_wp2
            go_ret2
            exact ⟨by rw [HXS.out, HF.out]; rfl, hb1.trans (hb.mono hz1)⟩
        · have hlp : 0 < left.length := List.length_pos_iff.2 hl0
          obtain ⟨g, cp, rfl⟩ := owned_form hown hlp
          obtain ⟨_, hlc, _, _, _⟩ := cellsAt_owned left hown
          have hpop := owned_pop hl0 hown
          have hln : ((left.length : Int) == 0) = false := beq_eq_false_iff_ne.2 (by omega)
          have hdl : left.dropLast.length = left.length - 1 := List.length_dropLast
          have hi1 : ((left.length : Int) - 1).toNat = left.length - 1 := by omega
          have HP := Lib.hid hpop
          have HDL := Lib.hid hdl
          clear hpop hdl
          by_cases hend : k + 1 = xs.length
          · have hend1 : ((k : Int) == (xs.length : Int) - 1) = true := beq_iff_eq.2 (by omega)
            have HDE := Lib.hid (show xs.drop (k + 1) = [] from List.drop_of_length_le (by omega))
            clear hend
            have hpop := HP.out
            go_wp2_with ((at_builtin; refine wpList_app tyStrs rfl _ _ rfl w1 w1.heap.size w1.heap.size (.slice (some ⟨g, 0, none⟩) (left.length - 1) cp) (left.length - 1) (svals left.dropLast) rfl (hpop.alloc _) (hb.alloc (by omega) _) (by simp; omega) (Nat.le_refl _) wr.heap.size 1 1 [str []] rfl (blockIs_new _ _ _) rfl (by simp [Value.oneCell']) (by omega) ?_; intro v' w' hown' hb' hgrow'))
            go_roundw
            case rel => exact ⟨_, k + 1, left.dropLast ++ [[]], rfl, by omega, by go_num, by rw [List.length_append, ← svals_append, HDL.out]; exact hown', hb', by rw [List.length_append, HDL.out]; simp; omega, by show dotsL xs [] = _; rw [H.out, HD.out, HDE.out, dotsL_upEnd left hl0], by show room _ + _ ≤ _; have h9 := HRM.out; rw [HD.out, room_cons] at h9; rw [room_append, room_one]; simp at h9 ⊢; omega⟩
            case measure => simp [intOf]; omega
          · have hend1 : ((k : Int) == (xs.length : Int) - 1) = false := beq_eq_false_iff_ne.2 (by omega)
            have HDE := Lib.hid (show xs.drop (k + 1) ≠ [] from fun h => by rw [List.drop_eq_nil_iff] at h; omega)
            go_wp2
            go_roundw
            case rel => exact ⟨_, k + 1, left.dropLast, rfl, by omega, by go_num, by rw [HDL.out]; exact HP.out, hb, by rw [HDL.out]; omega, by show dotsL xs [] = _; rw [H.out, HD.out, dotsL_up _ left hl0 HDE.out], by show room _ + _ ≤ _; have h9 := HRM.out; rw [HD.out, room_cons] at h9; simp at h9 ⊢; omega⟩
            case measure => simp [intOf]; omega
      · by_cases h1 : x = [46]
        · subst h1
          by_cases hend : k + 1 = xs.length
          · have hend1 : ((k : Int) == (xs.length : Int) - 1) = true := beq_iff_eq.2 (by omega)
            have HDE := Lib.hid (show xs.drop (k + 1) = [] from List.drop_of_length_le (by omega))
            clear hend
            go_wp2_with ((at_builtin; refine wpList_app tyStrs rfl _ _ rfl w1 w1.heap.size w1.heap.size v left.length (svals left) rfl (hown.alloc _) (hb.alloc (by omega) _) (by simp; omega) (Nat.le_refl _) wr.heap.size 1 1 [str []] rfl (blockIs_new _ _ _) rfl (by simp [Value.oneCell']) (by omega) ?_; intro v' w' hown' hb' hgrow'))
            go_roundw
            case rel => exact ⟨_, k + 1, left ++ [[]], rfl, by omega, by go_num, by rw [List.length_append, ← svals_append]; exact hown', hb', by simp; omega, by show dotsL xs [] = _; rw [H.out, HD.out, HDE.out, dotsL_dotEnd], by show room _ + _ ≤ _; have h9 := HRM.out; rw [HD.out, room_cons] at h9; rw [room_append, room_one]; simp at h9 ⊢; omega⟩
            case measure => simp [intOf]; omega
          · have hend1 : ((k : Int) == (xs.length : Int) - 1) = false := beq_eq_false_iff_ne.2 (by omega)
            have HDE := Lib.hid (show xs.drop (k + 1) ≠ [] from fun h => by rw [List.drop_eq_nil_iff] at h; omega)
            go_wp2
            go_roundw
            case rel => exact ⟨_, k + 1, left, rfl, by omega, by go_num, hown, hb, by omega, by show dotsL xs [] = _; rw [H.out, HD.out, dotsL_dot _ left HDE.out], by show room _ + _ ≤ _; have h9 := HRM.out; rw [HD.out, room_cons] at h9; simp at h9 ⊢; omega⟩
            case measure => simp [intOf]; omega
        · have h1' : (x == [46]) = false := by simpa using h1
          have h2' : (x == [46, 46]) = false := by simpa using h2
          have HS := Lib.hid (dotsL_seg x (xs.drop (k + 1)) left h2 h1)
          clear h1 h2
          go_wp2_with ((at_builtin; refine wpList_app tyStrs rfl _ _ rfl w1 w1.heap.size w1.heap.size v left.length (svals left) rfl (hown.alloc _) (hb.alloc (by omega) _) (by simp; omega) (Nat.le_refl _) wr.heap.size 1 1 [str x] rfl (blockIs_new _ _ _) rfl (by simp [Value.oneCell']) (by omega) ?_; intro v' w' hown' hb' hgrow'))
          go_roundw
          case rel => exact ⟨_, k + 1, left ++ [x], rfl, by omega, by go_num, by rw [List.length_append, ← svals_append]; exact hown', hb', by simp; omega, by show dotsL xs [] = _; rw [H.out, HD.out, HS.out], by show room _ + _ ≤ _; have h9 := HRM.out; rw [HD.out, room_cons] at h9; rw [room_append, room_one]; omega⟩
          case measure => simp [intOf]; omega
    · have HE := Lib.hid (show dotsL xs [] = some left by rw [H.out, List.drop_of_length_le (by omega)]; rfl)
      have HF := Lib.hid (dotsR_some HE.out)
      have HRL := Lib.hid (show room left ≤ u.length + 1 by have h9 := HRM.out; omega)
      have hl0 : left ≠ [] := dotsL_ne xs [] left HE.out (.inl HNE.out)
      obtain ⟨g, cp, rfl⟩ := owned_form hown (List.length_pos_iff.2 hl0)
      obtain ⟨_, hlc, _, hgl, hcl⟩ := cellsAt_owned left hown
      clear H HRM
      go_wp2
      go_loop [7, 51] (fun s i => ∃ k : Nat, k ≤ left.length ∧ i = .int .i64 k ∧ s = .string ⟨(slashed (left.take k)).toArray⟩) (fun _ i => left.length - (intOf i).toNat)
      case atStart => exact ⟨0, Nat.zero_le _, rfl, rfl⟩
      case round =>
        obtain ⟨k, hk, rfl, rfl⟩ := hrel
        by_cases hlt : k < left.length
        · have hc0 := hcl k left[k] (by simp [hlt])
          rw [Nat.zero_add] at hc0
          have HT := Lib.hid (show slashed (left.take (k + 1)) = slashed (left.take k) ++ 47 :: left[k] by rw [take_snoc hlt, slashed_append, slashed_one])
          have hl1 := room_take left (k + 1)
          rw [room, HT.out, List.length_append, List.length_cons] at hl1
          have hl2 : (slashed (left.take k)).length + (left[k].length + 1) ≤ u.length + 1 := Nat.le_trans hl1 HRL.out
          clear hl1
          generalize hx : left[k] = x at hc0 HT hl2
          clear hx
          go_wp2
          go_round
          case rel => exact ⟨k + 1, by omega, by go_num, by rw [HT.out]⟩
          case measure => simp [intOf]; omega
        · have HT := Lib.hid (show slashed (left.take k) = slashed left by rw [List.take_of_length_le (by omega)])
          go_wp2
          go_ret2
          exact ⟨by rw [HXS.out, HF.out, HT.out]; rfl, hb1.trans (hb.mono hz1)⟩
end A1
end Go.Proofs.YtnppicekfjdefaaGreatDoor
end

section
namespace Go.Proofs.YtnppicekfjdefaaGreatDoor
open Go.RowKit Pl Ad
attribute [local go_sem] ba_get conv_one conv_one_drewN ba_append ba_extract
set_option maxRecDepth 100000
set_option maxHeartbeats 4000000
set_option linter.unusedVariables false
namespace A1

/-- Block R holds an address' cells. -/
def Box (w : World) (R T : Nat) (v0 v1 v2 v3 : Value) : Prop := w.heap[R]? = some (.cells #[v0, v1, v2, v3] T (0, 0))
theorem Box.facts {w : World} {R T : Nat} {v0 v1 v2 v3 : Value} (h : Box w R T v0 v1 v2 v3) :
    (w.cell? ⟨R, 0, none⟩ = some v0 ∧ w.cell? ⟨R, 1, none⟩ = some v1 ∧ w.cell? ⟨R, 2, none⟩ = some v2 ∧ w.cell? ⟨R, 3, none⟩ = some v3) ∧ (w.frozen? ⟨R, 0, none⟩ = false ∧ w.frozen? ⟨R, 1, none⟩ = false ∧ w.frozen? ⟨R, 2, none⟩ = false ∧ w.frozen? ⟨R, 3, none⟩ = false) ∧ R < w.heap.size := by
  refine ⟨⟨?_, ?_, ?_, ?_⟩, ⟨?_, ?_, ?_, ?_⟩, (Array.getElem?_eq_some_iff.1 h).1⟩
  all_goals first
    | (rw [cell_of_row w R _ _ T _ h]; rfl)
    | (unfold World.frozen?; rw [h]; rfl)
theorem Box.below {w w' : World} {R T B : Nat} {v0 v1 v2 v3 : Value} (h : Box w R T v0 v1 v2 v3) (hb : Below B w w') (hR : R < B) : Box w' R T v0 v1 v2 v3 := (hb.block R hR).trans h
theorem box_new (w : World) (T : Nat) (v0 v1 v2 v3 : Value) : Box (w.alloc (.cells #[v0, v1, v2, v3] T)) w.heap.size T v0 v1 v2 v3 := heap_alloc_new w _

theorem Box.set {w : World} {R : Nat} {B : Nat} {W : World} (hb : Below B W w) (hR : B ≤ R) (a b c d : Value) : Below B W ((((w.setCell ⟨R, 0, none⟩ a).setCell ⟨R, 1, none⟩ b).setCell ⟨R, 2, none⟩ c).setCell ⟨R, 3, none⟩ d) :=
  (((hb.setCell (p := ⟨R, 0, none⟩) hR a).setCell (p := ⟨R, 1, none⟩) hR b).setCell (p := ⟨R, 2, none⟩) hR c).setCell (p := ⟨R, 3, none⟩) hR d
@[reducible] def adV (a : Adr) : Value := .agg #[.string ⟨a.host.toArray⟩, .string ⟨a.path.toArray⟩, .string ⟨a.query.toArray⟩, .bool a.has]
@[reducible] def ad0 : Value := .agg #[.string ⟨#[]⟩, .string ⟨#[]⟩, .string ⟨#[]⟩, .bool false]

/-- What Parse returns of a host, the segments, a query: the address, the error. -/
def pathV (h : Bs) (xs : List Bs) (q : Bs) (has : Bool) : Value :=
  match dotsL xs [] with
  | none => ad0
  | some left => if (adText h (slashed left) q has).length > 1024 then ad0 else adV ⟨h, slashed left, q, has⟩
def pathE (h : Bs) (xs : List Bs) (q : Bs) (has : Bool) : Value :=
  match dotsL xs [] with
  | none => errV 27
  | some left => if (adText h (slashed left) q has).length > 1024 then errV 5 else .nilIface
theorem path_none {h q : Bs} {xs : List Bs} {has : Bool} (hx : dotsL xs [] = none) : pathV h xs q has = ad0 ∧ pathE h xs q has = errV 27 := by
  unfold pathV pathE; rw [hx]; exact ⟨rfl, rfl⟩
theorem path_large {h q : Bs} {xs left : List Bs} {has : Bool} (hx : dotsL xs [] = some left) (hl : (adText h (slashed left) q has).length > 1024) : pathV h xs q has = ad0 ∧ pathE h xs q has = errV 5 := by
  unfold pathV pathE; rw [hx]; exact ⟨if_pos hl, if_pos hl⟩
theorem path_ok {h q : Bs} {xs left : List Bs} {has : Bool} (hx : dotsL xs [] = some left) (hl : ¬ (adText h (slashed left) q has).length > 1024) : pathV h xs q has = adV ⟨h, slashed left, q, has⟩ ∧ pathE h xs q has = .nilIface := by
  unfold pathV pathE; rw [hx]; exact ⟨if_neg hl, if_neg hl⟩

theorem parse_host (h t : Bs) (w : World) (hh : h.length ≤ 536870912) (hr : Ready w) (hk : hostOk h = false) :
    Calls Tryz.prog 55 #[.string ⟨h.toArray⟩, .string ⟨t.toArray⟩] w fun e w' => e = .returned (.tuple #[ad0, errV 8]) ∧ Below w.heap.size w w' := by
  have HE := Lib.hid (hostE_no h hk)
  clear hk
  have hbx := box_new w 98 (.string ⟨#[]⟩) (.string ⟨#[]⟩) (.string ⟨#[]⟩) (.bool false)
  have HBX := Lib.hid hbx
  have hbz := (Below.refl w.heap.size w).alloc (Nat.le_refl _) (.cells #[.string ⟨#[]⟩, .string ⟨#[]⟩, .string ⟨#[]⟩, .bool false] 98)
  have HBZ := Lib.hid hbz
  have HRD := Lib.hid (hr.below hbz)
  clear hbx hr hbz
  go_enter Tryz.func55, Tryz.ntmps55
  go_wp2_with fail
  refine (host_any h _ (by omega) HRD.out).mono ?_
  rintro e w1 ⟨rfl, hb1⟩
  rw [HE.out]
  obtain ⟨⟨c0, c1, c2, c3⟩, ⟨f0, f1, f2, f3⟩, hsz⟩ := (HBX.out.below hb1 (by simp)).facts
  have hb := HBZ.out.trans (hb1.mono (by simp))
  go_wp2_with fail
  refine bodyPost_ret (v := .tuple #[ad0, errV 8]) (by simp [results, Tryz.results55, go_sem, c0, c1, c2, c3]) rfl ⟨rfl, ?_⟩
  exact Box.set hb (Nat.le_refl _) _ _ _ _

theorem parse_slash (h t : Bs) (w : World) (hh : h.length ≤ 536870912) (ht : t.length ≤ 536870912) (hr : Ready w) (hk : hostOk h = true) (hs : (cutAt 63 t).1.head? ≠ some 47) :
    Calls Tryz.prog 55 #[.string ⟨h.toArray⟩, .string ⟨t.toArray⟩] w fun e w' => e = .returned (.tuple #[ad0, errV 27]) ∧ Below w.heap.size w w' := by
  have HE := Lib.hid (hostE_yes h hk)
  clear hk
  have HT := Lib.hid hs
  clear hs
  have hbx := box_new w 98 (.string ⟨#[]⟩) (.string ⟨#[]⟩) (.string ⟨#[]⟩) (.bool false)
  have HBX := Lib.hid hbx
  have hbz := (Below.refl w.heap.size w).alloc (Nat.le_refl _) (.cells #[.string ⟨#[]⟩, .string ⟨#[]⟩, .string ⟨#[]⟩, .bool false] 98)
  have HBZ := Lib.hid hbz
  have HRD := Lib.hid (hr.below hbz)
  clear hbx hr hbz
  go_enter Tryz.func55, Tryz.ntmps55
  go_wp2_with fail
  refine (host_any h _ (by omega) HRD.out).mono ?_
  rintro e w1 ⟨rfl, hb1⟩
  rw [HE.out]
  go_wp2_with fail
  refine (cut_any t 63 _ (by omega) (HRD.out.below hb1)).mono ?_
  rintro e w2 ⟨rfl, hb2⟩
  obtain ⟨⟨c0, c1, c2, c3⟩, ⟨f0, f1, f2, f3⟩, hsz⟩ := ((HBX.out.below hb1 (by simp)).below hb2 (by have := hb1.size; simp at this; omega)).facts
  have hb := HBZ.out.trans ((hb1.trans (hb2.mono hb1.size)).mono (by simp))
  have hp := HT.out
  generalize (cutAt 63 t).1 = p at hp ⊢
  match p, hp with
  | [], _ =>
    go_wp2_with fail
    refine bodyPost_ret (v := .tuple #[ad0, errV 27]) (by simp [results, Tryz.results55, go_sem, c0, c1, c2, c3]) rfl ⟨rfl, ?_⟩
    exact Box.set hb (Nat.le_refl _) _ _ _ _
  | x :: p', hp =>
    have hx : ¬ x = 47 := fun h => hp (by rw [h]; rfl)
    have hx1 : ((x.toNat : Int) == 47) = false := beq_eq_false_iff_ne.2 (fun h => hx (UInt8.toNat_inj.1 (show x.toNat = 47 by omega)))
    have hx2 : ((x.toNat : Int) != 47) = true := by rw [bne, hx1]; rfl
    clear hx hp
    go_wp2_with fail
    refine bodyPost_ret (v := .tuple #[ad0, errV 27]) (by simp [results, Tryz.results55, go_sem, c0, c1, c2, c3]) rfl ⟨rfl, ?_⟩
    exact Box.set hb (Nat.le_refl _) _ _ _ _
end A1
end Go.Proofs.YtnppicekfjdefaaGreatDoor
end

section
namespace Go.Proofs.YtnppicekfjdefaaGreatDoor
open Go.RowKit Pl Ad
attribute [local go_sem] ba_get conv_one conv_one_drewN ba_append ba_extract
set_option maxRecDepth 100000
set_option maxHeartbeats 4000000
set_option linter.unusedVariables false
namespace A1
theorem optS_some (l : Bs) : optS (some l) = l := rfl
attribute [local go_sem] optS_some
theorem parse_canon (h t p q : Bs) (has : Bool) (w : World) (hh : h.length ≤ 536870912) (ht : t.length ≤ 536870912) (hp : p.length ≤ 536870912) (hq : q.length ≤ 536870912) (hr : Ready w) (hk : hostOk h = true) (hs : cutAt 63 t = (47 :: p, q, has)) (hc : canon (47 :: p) marksP = none ∨ canon q marksQ = none) :
    Calls Tryz.prog 55 #[.string ⟨h.toArray⟩, .string ⟨t.toArray⟩] w fun e w' => e = .returned (.tuple #[ad0, errV 27]) ∧ Below w.heap.size w w' := by
  have HE := Lib.hid (hostE_yes h hk)
  clear hk
  have HT := Lib.hid hs
  clear hs
  have hbx := box_new w 98 (.string ⟨#[]⟩) (.string ⟨#[]⟩) (.string ⟨#[]⟩) (.bool false)
  have HBX := Lib.hid hbx
  have hbz := (Below.refl w.heap.size w).alloc (Nat.le_refl _) (.cells #[.string ⟨#[]⟩, .string ⟨#[]⟩, .string ⟨#[]⟩, .bool false] 98)
  have HBZ := Lib.hid hbz
  have HRD := Lib.hid (hr.below hbz)
  clear hbx hr hbz
  go_enter Tryz.func55, Tryz.ntmps55
  go_wp2_with fail
  refine (host_any h _ (by omega) HRD.out).mono ?_
  rintro e w1 ⟨rfl, hb1⟩
  rw [HE.out]
  go_wp2_with fail
  refine (cut_any t 63 _ (by omega) (HRD.out.below hb1)).mono ?_
  rintro e w2 ⟨rfl, hb2⟩
  rw [HT.out]
  go_wp2_with fail
  refine (canonical_any (47 :: p) marksP _ (by simp; omega) (by decide)).mono ?_
  rintro e w3 ⟨rfl, hb3⟩
  have HT3 := Lib.hid (hb2.trans (hb3.mono hb2.size))
  go_wp2_with fail
  refine (canonical_any q marksQ _ (by omega) (by decide)).mono ?_
  rintro e w4 ⟨rfl, hb4⟩
  have hb24 := HT3.out.trans (hb4.mono HT3.out.size)
  have hb14 := hb1.trans (hb24.mono hb1.size)
  have hz14 := hb14.size
  clear hb2 hb3 hb4
  obtain ⟨⟨c0, c1, c2, c3⟩, ⟨f0, f1, f2, f3⟩, hsz⟩ := (HBX.out.below hb14 (by simp)).facts
  have hb := HBZ.out.trans (hb14.mono (by simp))
  cases hcp : canon (47 :: p) marksP with
  | none =>
    go_wp2_with fail
    refine bodyPost_ret (v := .tuple #[ad0, errV 27]) (by simp [results, Tryz.results55, go_sem, c0, c1, c2, c3]) rfl ⟨rfl, ?_⟩
    exact Box.set hb (Nat.le_refl _) _ _ _ _
  | some p2 =>
    have hcq : canon q marksQ = none := by rcases hc with hc | hc; (· rw [hcp] at hc; cases hc); (· exact hc)
    rw [hcq]
    clear hcp hcq hc
    go_wp2_with fail
    refine bodyPost_ret (v := .tuple #[ad0, errV 27]) (by simp [results, Tryz.results55, go_sem, c0, c1, c2, c3]) rfl ⟨rfl, ?_⟩
    exact Box.set hb (Nat.le_refl _) _ _ _ _

theorem parse_dots (h t p q u q2 : Bs) (has : Bool) (w : World) (hh : h.length ≤ 536870912) (ht : t.length ≤ 536870912) (hp : p.length ≤ 536870912) (hq : q.length ≤ 536870912) (hr : Ready w) (hk : hostOk h = true) (hs : cutAt 63 t = (47 :: p, q, has)) (hc1 : canon (47 :: p) marksP = some (47 :: u)) (hc2 : canon q marksQ = some q2) :
    Calls Tryz.prog 55 #[.string ⟨h.toArray⟩, .string ⟨t.toArray⟩] w fun e w' => e = .returned (.tuple #[pathV (lower h) (splitOn 47 u) q2 has, pathE (lower h) (splitOn 47 u) q2 has]) ∧ Below w.heap.size w w' := by
  have HE := Lib.hid (hostE_yes h hk)
  have HH := Lib.hid (hostS_yes h hk)
  have hu : u.length ≤ 536870912 := by have := canon_len _ _ _ hc1; simp at this; omega
  have hq2 : q2.length ≤ 536870912 := by have := canon_len _ _ _ hc2; omega
  have hlh : (lower h).length ≤ 536870912 := by rw [lower_len]; exact hh
  clear hk
  have HT := Lib.hid hs
  clear hs
  have HC1 := Lib.hid hc1
  have HC2 := Lib.hid hc2
  clear hc1 hc2
  have hroom := room_splitOn 47 u
  have hne0 := splitOn_ne_nil 47 u
  have hcnt := splitOn_count 47 u
  have hbx := box_new w 98 (.string ⟨#[]⟩) (.string ⟨#[]⟩) (.string ⟨#[]⟩) (.bool false)
  have HBX := Lib.hid hbx
  have hbz := (Below.refl w.heap.size w).alloc (Nat.le_refl _) (.cells #[.string ⟨#[]⟩, .string ⟨#[]⟩, .string ⟨#[]⟩, .bool false] 98)
  have HBZ := Lib.hid hbz
  have HRD := Lib.hid (hr.below hbz)
  clear hbx hr hbz
  go_enter Tryz.func55, Tryz.ntmps55
  go_wp2_with fail
  refine (host_any h _ (by omega) HRD.out).mono ?_
  rintro e w1 ⟨rfl, hb1⟩
  rw [HE.out]
  go_wp2_with fail
  refine (cut_any t 63 _ (by omega) (HRD.out.below hb1)).mono ?_
  rintro e w2 ⟨rfl, hb2⟩
  rw [HT.out]
  go_wp2_with fail
  refine (canonical_any (47 :: p) marksP _ (by simp; omega) (by decide)).mono ?_
  rintro e w3 ⟨rfl, hb3⟩
  have HT3 := Lib.hid (hb2.trans (hb3.mono hb2.size))
  go_wp2_with fail
  refine (canonical_any q marksQ _ (by omega) (by decide)).mono ?_
  rintro e w4 ⟨rfl, hb4⟩
  have hb24 := HT3.out.trans (hb4.mono HT3.out.size)
  have hb14 := hb1.trans (hb24.mono hb1.size)
  have hz14 := hb14.size
  clear hb2 hb3 hb4
  rw [HC1.out, HC2.out, HH.out]
  go_wp2_with fail
  refine (split_any u 47 w4 (by omega) (HRD.out.below hb14)).mono ?_
  rintro e w5 ⟨b, c, rfl, hcap, hwb, hbw, hcells, hb5⟩
  generalize hxs0 : splitOn 47 u = xs at hcells hcap hcnt hroom hne0
  have HXS := Lib.hid hxs0
  clear hxs0
  have HNE := Lib.hid hne0
  have HR := Lib.hid hroom
  clear hne0 hroom
  have hb15 := hb14.trans (hb5.mono hz14)
  have hbf5 := HBZ.out.trans (hb15.mono (by simp))
  have hz5 := hb5.size
  have HBX5 := Lib.hid (HBX.out.below hb15 (by simp))
  clear hb5
  go_wp2_with fail
  go_loopw [13, 65] (fun s i wr => ∃ (v : Value) (k : Nat) (left : List Bs), v = s ∧ k ≤ xs.length ∧ i = .int .i64 k ∧ wr.ownsRow w5.heap.size 9 1 v left.length (svals left) ∧ Below w5.heap.size w5 wr ∧ left.length ≤ k ∧ Hid (dotsL xs [] = dotsL (xs.drop k) left) ∧ Hid (room left + room (xs.drop k) ≤ u.length + 1)) (fun _ i _ => xs.length - (intOf i).toNat)
  case atStart => exact ⟨_, 0, [], rfl, Nat.zero_le _, rfl, World.ownsRow_nil _ _ _ _, Below.refl _ _, Nat.zero_le _, rfl, by show room [] + room xs ≤ _; rw [HR.out, room_nil]; omega⟩
  case round =>
    obtain ⟨v, k, left, rfl, hk, rfl, hown, hb, hll, H, HRM⟩ := hrel
    have hz := hb.size
    have hsz1 : w.heap.size < w5.heap.size := by have := hb15.size; simp at this; omega
    by_cases hlt : k < xs.length
    · have hc0 := hcells k xs[k] (by simp [hlt])
      rw [Nat.zero_add] at hc0
      have hc := (hb.cell (p := ⟨b, k, none⟩) hbw).trans hc0
      have HD := Lib.hid (drop_cons hlt)
      generalize hx : xs[k] = x at hc HD
      clear hx hc0
      have hrd := room_dropLast left
      by_cases h2 : x = [46, 46]
      · subst h2
        by_cases hl0 : left = []
        · subst hl0
          have HF := Lib.hid (path_none (h := lower h) (q := q2) (has := has) (xs := xs) (by rw [H.out, HD.out, dotsL_up0]))
          obtain ⟨⟨c0, c1, c2, c3⟩, ⟨f0, f1, f2, f3⟩, hsz⟩ := (HBX5.out.below hb hsz1).facts
          have hbf := hbf5.trans (hb.mono (Nat.le_of_lt hsz1))
          rcases owned_cases hown with rfl | ⟨g, cp, rfl⟩
          all_goals
            go_wp2
            refine bodyPost_ret (v := .tuple #[ad0, errV 27]) (by simp [results, Tryz.results55, go_sem, c0, c1, c2, c3]) rfl ⟨?_, ?_⟩
            · rw [HXS.out, HF.out.1, HF.out.2]
            · exact Box.set hbf (Nat.le_refl _) _ _ _ _
        · have hlp : 0 < left.length := List.length_pos_iff.2 hl0
          obtain ⟨g, cp, rfl⟩ := owned_form hown hlp
          obtain ⟨_, hlc, _, _, _⟩ := cellsAt_owned left hown
          have HP := Lib.hid (owned_pop hl0 hown)
          have hln : ((left.length : Int) == 0) = false := beq_eq_false_iff_ne.2 (by omega)
          have HDL := Lib.hid (show left.dropLast.length = left.length - 1 from List.length_dropLast)
          have hi1 : ((left.length : Int) - 1).toNat = left.length - 1 := by omega
          by_cases hend : k + 1 = xs.length
          · have hend1 : ((k : Int) == (xs.length : Int) - 1) = true := beq_iff_eq.2 (by omega)
            have HDE := Lib.hid (show xs.drop (k + 1) = [] from List.drop_of_length_le (by omega))
            clear hend
            have hpop := HP.out
            go_wp2_with ((at_builtin; refine wpList_app tyStrs rfl _ _ rfl w5 w5.heap.size w5.heap.size (.slice (some ⟨g, 0, none⟩) (left.length - 1) cp) (left.length - 1) (svals left.dropLast) rfl (hpop.alloc _) (hb.alloc (by omega) _) (by simp; omega) (Nat.le_refl _) wr.heap.size 1 1 [str []] rfl (blockIs_new _ _ _) rfl (by simp [Value.oneCell']) (by omega) ?_; intro v' w' hown' hb' hgrow'))
            go_roundw
            case rel => exact ⟨_, k + 1, left.dropLast ++ [[]], rfl, by omega, by go_num, by rw [List.length_append, ← svals_append, HDL.out]; exact hown', hb', by rw [List.length_append, HDL.out]; simp; omega, by show dotsL xs [] = _; rw [H.out, HD.out, HDE.out, dotsL_upEnd left hl0], by show room _ + _ ≤ _; have h9 := HRM.out; rw [HD.out, room_cons] at h9; rw [room_append, room_one]; simp at h9 ⊢; omega⟩
            case measure => simp [intOf]; omega
          · have hend1 : ((k : Int) == (xs.length : Int) - 1) = false := beq_eq_false_iff_ne.2 (by omega)
            have HDE := Lib.hid (show xs.drop (k + 1) ≠ [] from fun h => by rw [List.drop_eq_nil_iff] at h; omega)
            go_wp2
            go_roundw
            case rel => exact ⟨_, k + 1, left.dropLast, rfl, by omega, by go_num, by rw [HDL.out]; exact HP.out, hb, by rw [HDL.out]; omega, by show dotsL xs [] = _; rw [H.out, HD.out, dotsL_up _ left hl0 HDE.out], by show room _ + _ ≤ _; have h9 := HRM.out; rw [HD.out, room_cons] at h9; simp at h9 ⊢; omega⟩
            case measure => simp [intOf]; omega
      · by_cases h1 : x = [46]
        · subst h1
          by_cases hend : k + 1 = xs.length
          · have hend1 : ((k : Int) == (xs.length : Int) - 1) = true := beq_iff_eq.2 (by omega)
            have HDE := Lib.hid (show xs.drop (k + 1) = [] from List.drop_of_length_le (by omega))
            clear hend
            go_wp2_with ((at_builtin; refine wpList_app tyStrs rfl _ _ rfl w5 w5.heap.size w5.heap.size v left.length (svals left) rfl (hown.alloc _) (hb.alloc (by omega) _) (by simp; omega) (Nat.le_refl _) wr.heap.size 1 1 [str []] rfl (blockIs_new _ _ _) rfl (by simp [Value.oneCell']) (by omega) ?_; intro v' w' hown' hb' hgrow'))
            go_roundw
            case rel => exact ⟨_, k + 1, left ++ [[]], rfl, by omega, by go_num, by rw [List.length_append, ← svals_append]; exact hown', hb', by simp; omega, by show dotsL xs [] = _; rw [H.out, HD.out, HDE.out, dotsL_dotEnd], by show room _ + _ ≤ _; have h9 := HRM.out; rw [HD.out, room_cons] at h9; rw [room_append, room_one]; simp at h9 ⊢; omega⟩
            case measure => simp [intOf]; omega
          · have hend1 : ((k : Int) == (xs.length : Int) - 1) = false := beq_eq_false_iff_ne.2 (by omega)
            have HDE := Lib.hid (show xs.drop (k + 1) ≠ [] from fun h => by rw [List.drop_eq_nil_iff] at h; omega)
            go_wp2
            go_roundw
            case rel => exact ⟨_, k + 1, left, rfl, by omega, by go_num, hown, hb, by omega, by show dotsL xs [] = _; rw [H.out, HD.out, dotsL_dot _ left HDE.out], by show room _ + _ ≤ _; have h9 := HRM.out; rw [HD.out, room_cons] at h9; simp at h9 ⊢; omega⟩
            case measure => simp [intOf]; omega
        · have h1' : (x == [46]) = false := by simpa using h1
          have h2' : (x == [46, 46]) = false := by simpa using h2
          have HS := Lib.hid (dotsL_seg x (xs.drop (k + 1)) left h2 h1)
          clear h1 h2
          go_wp2_with ((at_builtin; refine wpList_app tyStrs rfl _ _ rfl w5 w5.heap.size w5.heap.size v left.length (svals left) rfl (hown.alloc _) (hb.alloc (by omega) _) (by simp; omega) (Nat.le_refl _) wr.heap.size 1 1 [str x] rfl (blockIs_new _ _ _) rfl (by simp [Value.oneCell']) (by omega) ?_; intro v' w' hown' hb' hgrow'))
          go_roundw
          case rel => exact ⟨_, k + 1, left ++ [x], rfl, by omega, by go_num, by rw [List.length_append, ← svals_append]; exact hown', hb', by simp; omega, by show dotsL xs [] = _; rw [H.out, HD.out, HS.out], by show room _ + _ ≤ _; have h9 := HRM.out; rw [HD.out, room_cons] at h9; rw [room_append, room_one]; omega⟩
          case measure => simp [intOf]; omega
    · have HE2 := Lib.hid (show dotsL xs [] = some left by rw [H.out, List.drop_of_length_le (by omega)]; rfl)
      have HRL := Lib.hid (show room left ≤ u.length + 1 by have h9 := HRM.out; omega)
      have hl0 : left ≠ [] := dotsL_ne xs [] left HE2.out (.inl HNE.out)
      obtain ⟨g, cp, rfl⟩ := owned_form hown (List.length_pos_iff.2 hl0)
      obtain ⟨_, hlc, _, hgl, hcl⟩ := cellsAt_owned left hown
      have HJ := Lib.hid (slashed_join left hl0)
      have hjl : (Lib.join left [47]).length ≤ 536870912 := by have h9 := HRL.out; rw [room, ← HJ.out] at h9; simp at h9; omega
      clear H HRM
      go_wp2_with fail
      refine (join_any g cp left [47] wr hcl hgl (by omega) hlc (by omega)).mono ?_
      rintro e w6 ⟨rfl, hb6⟩
      have hb56 := hb.trans (hb6.mono hz)
      have hz6 := hb6.size
      clear hcl hown
      go_wp2_with fail
      rw [HJ.out]
      have hsl : (slashed left).length ≤ 536870913 := by have h9 := HRL.out; unfold room at h9; omega
      refine (text_any (lower h) (slashed left) q2 has _ (by omega) (by omega) (by omega)).mono ?_
      rintro e w7 ⟨rfl, hb7⟩
      have hbl := box_new w6 98 (.string ⟨(lower h).toArray⟩) (.string ⟨(slashed left).toArray⟩) (.string ⟨q2.toArray⟩) (.bool has)
      obtain ⟨⟨d0, d1, d2, d3⟩, ⟨_, _, _, _⟩, _⟩ := (hbl.below hb7 (by simp)).facts
      have hb57 := hb56.trans (((Below.refl w6.heap.size w6).alloc (Nat.le_refl _) (.cells #[.string ⟨(lower h).toArray⟩, .string ⟨(slashed left).toArray⟩, .string ⟨q2.toArray⟩, .bool has] 98)).trans (hb7.mono (by simp)) |>.mono (by have := hb56.size; omega))
      obtain ⟨⟨c0, c1, c2, c3⟩, ⟨f0, f1, f2, f3⟩, hsz⟩ := (HBX5.out.below hb57 hsz1).facts
      have hbf := hbf5.trans (hb57.mono (Nat.le_of_lt hsz1))
      clear hbl
      by_cases hlg : (adText (lower h) (slashed left) q2 has).length > 1024
      · have HF := Lib.hid (path_large HE2.out hlg)
        go_wp2_with fail
        refine bodyPost_ret (v := .tuple #[ad0, errV 5]) (by simp [results, Tryz.results55, go_sem, c0, c1, c2, c3]) rfl ⟨?_, ?_⟩
        · rw [HXS.out, HF.out.1, HF.out.2]
        · exact Box.set hbf (Nat.le_refl _) _ _ _ _
      · have HF := Lib.hid (path_ok HE2.out hlg)
        go_wp2_with fail
        refine bodyPost_ret (v := .tuple #[adV ⟨lower h, slashed left, q2, has⟩, .nilIface]) (by simp [results, Tryz.results55, go_sem, c0, c1, c2, c3]) rfl ⟨?_, ?_⟩
        · rw [HXS.out, HF.out.1, HF.out.2]
        · exact Box.set hbf (Nat.le_refl _) _ _ _ _
end A1
end Go.Proofs.YtnppicekfjdefaaGreatDoor
end

section
namespace Go.Proofs.YtnppicekfjdefaaGreatDoor
open Go.RowKit Pl Ad
namespace A1

def parseV : Except Int Adr → Value
  | .ok a => adV a
  | .error _ => ad0
def parseE : Except Int Adr → Value
  | .ok _ => .nilIface
  | .error n => errV n

theorem head_47 {p : Bs} (h : p.head? = some 47) : ∃ u, p = 47 :: u := by
  cases p with
  | nil => cases h
  | cons x t => simp at h; exact ⟨t, by rw [h]⟩

/-- The ways through Parse. -/
theorem parse_ways (h t : Bs) :
    (hostOk h = false ∧ parse h t = .error 8) ∨
    (hostOk h = true ∧ (cutAt 63 t).1.head? ≠ some 47 ∧ parse h t = .error 27) ∨
    (hostOk h = true ∧ ∃ p q has, cutAt 63 t = (47 :: p, q, has) ∧ (canon (47 :: p) marksP = none ∨ canon q marksQ = none) ∧ parse h t = .error 27) ∨
    (hostOk h = true ∧ ∃ p q has u q2, cutAt 63 t = (47 :: p, q, has) ∧ canon (47 :: p) marksP = some (47 :: u) ∧ canon q marksQ = some q2 ∧
      parse h t = match dotsL (splitOn 47 u) [] with
        | none => .error 27
        | some left => if (adText (lower h) (slashed left) q2 has).length > 1024 then .error 5 else .ok ⟨lower h, slashed left, q2, has⟩) := by
  cases hk : hostOk h with
  | false => exact .inl ⟨rfl, by simp [parse, hk]⟩
  | true =>
    refine .inr ?_
    by_cases hs : (cutAt 63 t).1.head? = some 47
    · refine .inr ?_
      obtain ⟨p, hp⟩ := head_47 hs
      have hcut : cutAt 63 t = (47 :: p, (cutAt 63 t).2.1, (cutAt 63 t).2.2) := by rw [← hp]
      cases hc1 : canon (47 :: p) marksP with
      | none => exact .inl ⟨rfl, p, _, _, hcut, .inl hc1, by simp [parse, hk, hp, hc1]⟩
      | some p2 =>
        cases hc2 : canon (cutAt 63 t).2.1 marksQ with
        | none => exact .inl ⟨rfl, p, _, _, hcut, .inr hc2, by simp [parse, hk, hp, hc1, hc2]⟩
        | some q2 =>
          obtain ⟨u, rfl, hu⟩ := canon_slash p p2 hc1
          refine .inr ⟨rfl, p, _, _, u, q2, hcut, hc1, hc2, ?_⟩
          simp [parse, hk, hp, hc1, hc2]
          rfl
    · exact .inl ⟨rfl, hs, by simp [parse, hk, hs]⟩

theorem path_parse (h : Bs) (xs : List Bs) (q : Bs) (has : Bool) (r : Except Int Adr)
    (hr : r = match dotsL xs [] with
        | none => .error 27
        | some left => if (adText h (slashed left) q has).length > 1024 then .error 5 else .ok ⟨h, slashed left, q, has⟩) : pathV h xs q has = parseV r ∧ pathE h xs q has = parseE r := by
  subst hr
  unfold pathV pathE
  cases dotsL xs [] with
  | none => exact ⟨rfl, rfl⟩
  | some left =>
    simp only
    split <;> exact ⟨rfl, rfl⟩

theorem parse_any (h t : Bs) (w : World) (hh : h.length ≤ 536870912) (ht : t.length ≤ 536870912) (hr : Ready w) :
    Calls Tryz.prog 55 #[.string ⟨h.toArray⟩, .string ⟨t.toArray⟩] w fun e w' => e = .returned (.tuple #[parseV (parse h t), parseE (parse h t)]) ∧ Below w.heap.size w w' := by
  have hcl := cutAt_len 63 t
  rcases parse_ways h t with ⟨hk, e⟩ | ⟨hk, hs, e⟩ | ⟨hk, p, q, has, hs, hc, e⟩ | ⟨hk, p, q, has, u, q2, hs, hc1, hc2, e⟩
  · rw [e]; exact parse_host h t w hh hr hk
  · rw [e]; exact parse_slash h t w hh ht hr hk hs
  · rw [hs] at hcl; simp at hcl
    rw [e]; exact parse_canon h t p q has w hh ht (by omega) (by omega) hr hk hs hc
  · rw [hs] at hcl; simp at hcl
    obtain ⟨e1, e2⟩ := path_parse (lower h) (splitOn 47 u) q2 has _ e
    rw [← e1, ← e2]
    exact parse_dots h t p q u q2 has w hh ht (by omega) (by omega) hr hk hs hc1 hc2

theorem parse_ok {h t : Bs} {a : Adr} (w : World) (hh : h.length ≤ 536870912) (ht : t.length ≤ 536870912) (hr : Ready w) (hp : parse h t = .ok a) :
    Calls Tryz.prog 55 #[.string ⟨h.toArray⟩, .string ⟨t.toArray⟩] w fun e w' => e = .returned (.tuple #[adV a, .nilIface]) ∧ Below w.heap.size w w' := by
  have := parse_any h t w hh ht hr
  rw [hp] at this; exact this
theorem parse_err {h t : Bs} {n : Int} (w : World) (hh : h.length ≤ 536870912) (ht : t.length ≤ 536870912) (hr : Ready w) (hp : parse h t = .error n) :
    Calls Tryz.prog 55 #[.string ⟨h.toArray⟩, .string ⟨t.toArray⟩] w fun e w' => e = .returned (.tuple #[ad0, errV n]) ∧ Below w.heap.size w w' := by
  have := parse_any h t w hh ht hr
  rw [hp] at this; exact this
end A1
end Go.Proofs.YtnppicekfjdefaaGreatDoor
end
