/- Contracts and plain facts that the statement's proof leans on (texts joined). No condition beyond those that each names. -/
import Derived.Deep.RegionWith
import Derived.Lib.AtoiAll
import Derived.Lib.SlicesS
import Derived.Lib.Hide
import Derived.Test.YtjijijjkkhpjnaaGreatDoorQgA
import Derived.Test.YtjijijjkkhpjnaaGreatDoorQgB
import Derived.Test.YtjijijjkkhpjnaaGreatDoorQgC
section
section
namespace Go.Proofs.YtjijijjkkhpjnaaGreatDoor
open Go.RowKit Pl Ad
attribute [local go_sem] ba_get conv_one conv_one_drewN ba_append ba_extract
set_option maxRecDepth 100000
set_option maxHeartbeats 4000000
set_option linter.unusedVariables false
namespace A1

end A1
end Go.Proofs.YtjijijjkkhpjnaaGreatDoor
end

section
namespace Go.Proofs.YtjijijjkkhpjnaaGreatDoor
open Go.RowKit Pl Ad
attribute [local go_sem] ba_get conv_one conv_one_drewN ba_append ba_extract
set_option maxRecDepth 100000
set_option maxHeartbeats 4000000
set_option linter.unusedVariables false
namespace A1

/-- Block R holds an address' cells. -/
def Box (w : World) (R T : Nat) (v0 v1 v2 v3 : Value) : Prop := w.heap[R]? = some (.cells #[v0, v1, v2, v3] T (0, 0))
theorem Box.facts {w : World} {R T : Nat} {v0 v1 v2 v3 : Value} (h : Box w R T v0 v1 v2 v3) :
    (w.cell? ⟨R, 0, none⟩ = some v0 ∧ w.cell? ⟨R, 1, none⟩ = some v1 ∧ w.cell? ⟨R, 2, none⟩ = some v2 ∧ w.cell? ⟨R, 3, none⟩ = some v3) ∧ (w.frozen? ⟨R, 0, none⟩ = false ∧ w.frozen? ⟨R, 1, none⟩ = false ∧ w.frozen? ⟨R, 2, none⟩ = false ∧ w.frozen? ⟨R, 3, none⟩ = false) ∧ R < w.heap.size := by
  refine ⟨⟨?_, ?_, ?_, ?_⟩, ⟨?_, ?_, ?_, ?_⟩, (Array.getElem?_eq_some_iff.1 h).1⟩
  all_goals first
    | (rw [cell_of_row w R _ _ T _ h]; rfl)
    | (unfold World.frozen?; rw [h]; rfl)
theorem Box.below {w w' : World} {R T B : Nat} {v0 v1 v2 v3 : Value} (h : Box w R T v0 v1 v2 v3) (hb : Below B w w') (hR : R < B) : Box w' R T v0 v1 v2 v3 := (hb.block R hR).trans h
theorem box_new (w : World) (T : Nat) (v0 v1 v2 v3 : Value) : Box (w.alloc (.cells #[v0, v1, v2, v3] T)) w.heap.size T v0 v1 v2 v3 := heap_alloc_new w _

theorem Box.set {w : World} {R : Nat} {B : Nat} {W : World} (hb : Below B W w) (hR : B ≤ R) (a b c d : Value) : Below B W ((((w.setCell ⟨R, 0, none⟩ a).setCell ⟨R, 1, none⟩ b).setCell ⟨R, 2, none⟩ c).setCell ⟨R, 3, none⟩ d) :=
  (((hb.setCell (p := ⟨R, 0, none⟩) hR a).setCell (p := ⟨R, 1, none⟩) hR b).setCell (p := ⟨R, 2, none⟩) hR c).setCell (p := ⟨R, 3, none⟩) hR d
@[reducible] def adV (a : Adr) : Value := .agg #[.string ⟨a.host.toArray⟩, .string ⟨a.path.toArray⟩, .string ⟨a.query.toArray⟩, .bool a.has]
@[reducible] def ad0 : Value := .agg #[.string ⟨#[]⟩, .string ⟨#[]⟩, .string ⟨#[]⟩, .bool false]

/-- What Parse returns of a host, the segments, a query: the address, the error. -/
def pathV (h : Bs) (xs : List Bs) (q : Bs) (has : Bool) : Value :=
  match dotsL xs [] with
  | none => ad0
  | some left => if (adText h (slashed left) q has).length > 1024 then ad0 else adV ⟨h, slashed left, q, has⟩
def pathE (h : Bs) (xs : List Bs) (q : Bs) (has : Bool) : Value :=
  match dotsL xs [] with
  | none => errV 27
  | some left => if (adText h (slashed left) q has).length > 1024 then errV 5 else .nilIface
theorem path_none {h q : Bs} {xs : List Bs} {has : Bool} (hx : dotsL xs [] = none) : pathV h xs q has = ad0 ∧ pathE h xs q has = errV 27 := by
  unfold pathV pathE; rw [hx]; exact ⟨rfl, rfl⟩
theorem path_large {h q : Bs} {xs left : List Bs} {has : Bool} (hx : dotsL xs [] = some left) (hl : (adText h (slashed left) q has).length > 1024) : pathV h xs q has = ad0 ∧ pathE h xs q has = errV 5 := by
  unfold pathV pathE; rw [hx]; exact ⟨if_pos hl, if_pos hl⟩
theorem path_ok {h q : Bs} {xs left : List Bs} {has : Bool} (hx : dotsL xs [] = some left) (hl : ¬ (adText h (slashed left) q has).length > 1024) : pathV h xs q has = adV ⟨h, slashed left, q, has⟩ ∧ pathE h xs q has = .nilIface := by
  unfold pathV pathE; rw [hx]; exact ⟨if_neg hl, if_neg hl⟩

theorem parse_host (h t : Bs) (w : World) (hh : h.length ≤ 536870912) (hr : Ready w) (hk : hostOk h = false) :
    Calls Tryz.prog 101 #[.string ⟨h.toArray⟩, .string ⟨t.toArray⟩] w fun e w' => e = .returned (.tuple #[ad0, errV 8]) ∧ Below w.heap.size w w' := by
  have HE := Lib.hid (hostE_no h hk)
  clear hk
  have hbx := box_new w 145 (.string ⟨#[]⟩) (.string ⟨#[]⟩) (.string ⟨#[]⟩) (.bool false)
  have HBX := Lib.hid hbx
  have hbz := (Below.refl w.heap.size w).alloc (Nat.le_refl _) (.cells #[.string ⟨#[]⟩, .string ⟨#[]⟩, .string ⟨#[]⟩, .bool false] 145)
  have HBZ := Lib.hid hbz
  have HRD := Lib.hid (hr.below hbz)
  clear hbx hr hbz
  go_enter Tryz.func101, Tryz.ntmps101
  go_wp2_with fail
  refine (host_any h _ (by omega) HRD.out).mono ?_
  rintro e w1 ⟨rfl, hb1⟩
  rw [HE.out]
  obtain ⟨⟨c0, c1, c2, c3⟩, ⟨f0, f1, f2, f3⟩, hsz⟩ := (HBX.out.below hb1 (by simp)).facts
  have hb := HBZ.out.trans (hb1.mono (by simp))
  go_wp2_with fail
  refine bodyPost_ret (v := .tuple #[ad0, errV 8]) (by simp [results, Tryz.results101, go_sem, c0, c1, c2, c3]) rfl ⟨rfl, ?_⟩
  exact Box.set hb (Nat.le_refl _) _ _ _ _

theorem parse_slash (h t : Bs) (w : World) (hh : h.length ≤ 536870912) (ht : t.length ≤ 536870912) (hr : Ready w) (hk : hostOk h = true) (hs : (cutAt 63 t).1.head? ≠ some 47) :
    Calls Tryz.prog 101 #[.string ⟨h.toArray⟩, .string ⟨t.toArray⟩] w fun e w' => e = .returned (.tuple #[ad0, errV 27]) ∧ Below w.heap.size w w' := by
  have HE := Lib.hid (hostE_yes h hk)
  clear hk
  have HT := Lib.hid hs
  clear hs
  have hbx := box_new w 145 (.string ⟨#[]⟩) (.string ⟨#[]⟩) (.string ⟨#[]⟩) (.bool false)
  have HBX := Lib.hid hbx
  have hbz := (Below.refl w.heap.size w).alloc (Nat.le_refl _) (.cells #[.string ⟨#[]⟩, .string ⟨#[]⟩, .string ⟨#[]⟩, .bool false] 145)
  have HBZ := Lib.hid hbz
  have HRD := Lib.hid (hr.below hbz)
  clear hbx hr hbz
  go_enter Tryz.func101, Tryz.ntmps101
  go_wp2_with fail
  refine (host_any h _ (by omega) HRD.out).mono ?_
  rintro e w1 ⟨rfl, hb1⟩
  rw [HE.out]
  go_wp2_with fail
  refine (cut_any t 63 _ (by omega) (HRD.out.below hb1)).mono ?_
  rintro e w2 ⟨rfl, hb2⟩
  obtain ⟨⟨c0, c1, c2, c3⟩, ⟨f0, f1, f2, f3⟩, hsz⟩ := ((HBX.out.below hb1 (by simp)).below hb2 (by have := hb1.size; simp at this; omega)).facts
  have hb := HBZ.out.trans ((hb1.trans (hb2.mono hb1.size)).mono (by simp))
  have hp := HT.out
  generalize (cutAt 63 t).1 = p at hp ⊢
  match p, hp with
  | [], _ =>
    go_wp2_with fail
    refine bodyPost_ret (v := .tuple #[ad0, errV 27]) (by simp [results, Tryz.results101, go_sem, c0, c1, c2, c3]) rfl ⟨rfl, ?_⟩
    exact Box.set hb (Nat.le_refl _) _ _ _ _
  | x :: p', hp =>
    have hx : ¬ x = 47 := fun h => hp (by rw [h]; rfl)
    have hx1 : ((x.toNat : Int) == 47) = false := beq_eq_false_iff_ne.2 (fun h => hx (UInt8.toNat_inj.1 (show x.toNat = 47 by omega)))
    have hx2 : ((x.toNat : Int) != 47) = true := by rw [bne, hx1]; rfl
    clear hx hp
    go_wp2_with fail
    refine bodyPost_ret (v := .tuple #[ad0, errV 27]) (by simp [results, Tryz.results101, go_sem, c0, c1, c2, c3]) rfl ⟨rfl, ?_⟩
    exact Box.set hb (Nat.le_refl _) _ _ _ _
end A1
end Go.Proofs.YtjijijjkkhpjnaaGreatDoor
end

section
namespace Go.Proofs.YtjijijjkkhpjnaaGreatDoor
open Go.RowKit Pl Ad
attribute [local go_sem] ba_get conv_one conv_one_drewN ba_append ba_extract
set_option maxRecDepth 100000
set_option maxHeartbeats 4000000
set_option linter.unusedVariables false
namespace A1
theorem optS_some (l : Bs) : optS (some l) = l := rfl
attribute [local go_sem] optS_some
theorem parse_canon (h t p q : Bs) (has : Bool) (w : World) (hh : h.length ≤ 536870912) (ht : t.length ≤ 536870912) (hp : p.length ≤ 536870912) (hq : q.length ≤ 536870912) (hr : Ready w) (hk : hostOk h = true) (hs : cutAt 63 t = (47 :: p, q, has)) (hc : canon (47 :: p) marksP = none ∨ canon q marksQ = none) :
    Calls Tryz.prog 101 #[.string ⟨h.toArray⟩, .string ⟨t.toArray⟩] w fun e w' => e = .returned (.tuple #[ad0, errV 27]) ∧ Below w.heap.size w w' := by
  have HE := Lib.hid (hostE_yes h hk)
  clear hk
  have HT := Lib.hid hs
  clear hs
  have hbx := box_new w 145 (.string ⟨#[]⟩) (.string ⟨#[]⟩) (.string ⟨#[]⟩) (.bool false)
  have HBX := Lib.hid hbx
  have hbz := (Below.refl w.heap.size w).alloc (Nat.le_refl _) (.cells #[.string ⟨#[]⟩, .string ⟨#[]⟩, .string ⟨#[]⟩, .bool false] 145)
  have HBZ := Lib.hid hbz
  have HRD := Lib.hid (hr.below hbz)
  clear hbx hr hbz
  go_enter Tryz.func101, Tryz.ntmps101
  go_wp2_with fail
  refine (host_any h _ (by omega) HRD.out).mono ?_
  rintro e w1 ⟨rfl, hb1⟩
  rw [HE.out]
  go_wp2_with fail
  refine (cut_any t 63 _ (by omega) (HRD.out.below hb1)).mono ?_
  rintro e w2 ⟨rfl, hb2⟩
  rw [HT.out]
  go_wp2_with fail
  refine (canonical_any (47 :: p) marksP _ (by simp; omega) (by decide)).mono ?_
  rintro e w3 ⟨rfl, hb3⟩
  have HT3 := Lib.hid (hb2.trans (hb3.mono hb2.size))
  go_wp2_with fail
  refine (canonical_any q marksQ _ (by omega) (by decide)).mono ?_
  rintro e w4 ⟨rfl, hb4⟩
  have hb24 := HT3.out.trans (hb4.mono HT3.out.size)
  have hb14 := hb1.trans (hb24.mono hb1.size)
  have hz14 := hb14.size
  clear hb2 hb3 hb4
  obtain ⟨⟨c0, c1, c2, c3⟩, ⟨f0, f1, f2, f3⟩, hsz⟩ := (HBX.out.below hb14 (by simp)).facts
  have hb := HBZ.out.trans (hb14.mono (by simp))
  cases hcp : canon (47 :: p) marksP with
  | none =>
    go_wp2_with fail
    refine bodyPost_ret (v := .tuple #[ad0, errV 27]) (by simp [results, Tryz.results101, go_sem, c0, c1, c2, c3]) rfl ⟨rfl, ?_⟩
    exact Box.set hb (Nat.le_refl _) _ _ _ _
  | some p2 =>
    have hcq : canon q marksQ = none := by rcases hc with hc | hc; (· rw [hcp] at hc; cases hc); (· exact hc)
    rw [hcq]
    clear hcp hcq hc
    go_wp2_with fail
    refine bodyPost_ret (v := .tuple #[ad0, errV 27]) (by simp [results, Tryz.results101, go_sem, c0, c1, c2, c3]) rfl ⟨rfl, ?_⟩
    exact Box.set hb (Nat.le_refl _) _ _ _ _

theorem parse_dots (h t p q u q2 : Bs) (has : Bool) (w : World) (hh : h.length ≤ 536870912) (ht : t.length ≤ 536870912) (hp : p.length ≤ 536870912) (hq : q.length ≤ 536870912) (hr : Ready w) (hk : hostOk h = true) (hs : cutAt 63 t = (47 :: p, q, has)) (hc1 : canon (47 :: p) marksP = some (47 :: u)) (hc2 : canon q marksQ = some q2) :
    Calls Tryz.prog 101 #[.string ⟨h.toArray⟩, .string ⟨t.toArray⟩] w fun e w' => e = .returned (.tuple #[pathV (lower h) (splitOn 47 u) q2 has, pathE (lower h) (splitOn 47 u) q2 has]) ∧ Below w.heap.size w w' := by
  have HE := Lib.hid (hostE_yes h hk)
  have HH := Lib.hid (hostS_yes h hk)
  have hu : u.length ≤ 536870912 := by have := canon_len _ _ _ hc1; simp at this; omega
  have hq2 : q2.length ≤ 536870912 := by have := canon_len _ _ _ hc2; omega
  have hlh : (lower h).length ≤ 536870912 := by rw [lower_len]; exact hh
  clear hk
  have HT := Lib.hid hs
  clear hs
  have HC1 := Lib.hid hc1
  have HC2 := Lib.hid hc2
  clear hc1 hc2
  have hroom := room_splitOn 47 u
  have hne0 := splitOn_ne_nil 47 u
  have hcnt := splitOn_count 47 u
  have hbx := box_new w 145 (.string ⟨#[]⟩) (.string ⟨#[]⟩) (.string ⟨#[]⟩) (.bool false)
  have HBX := Lib.hid hbx
  have hbz := (Below.refl w.heap.size w).alloc (Nat.le_refl _) (.cells #[.string ⟨#[]⟩, .string ⟨#[]⟩, .string ⟨#[]⟩, .bool false] 145)
  have HBZ := Lib.hid hbz
  have HRD := Lib.hid (hr.below hbz)
  clear hbx hr hbz
  go_enter Tryz.func101, Tryz.ntmps101
  go_wp2_with fail
  refine (host_any h _ (by omega) HRD.out).mono ?_
  rintro e w1 ⟨rfl, hb1⟩
  rw [HE.out]
  go_wp2_with fail
  refine (cut_any t 63 _ (by omega) (HRD.out.below hb1)).mono ?_
  rintro e w2 ⟨rfl, hb2⟩
  rw [HT.out]
  go_wp2_with fail
  refine (canonical_any (47 :: p) marksP _ (by simp; omega) (by decide)).mono ?_
  rintro e w3 ⟨rfl, hb3⟩
  have HT3 := Lib.hid (hb2.trans (hb3.mono hb2.size))
  go_wp2_with fail
  refine (canonical_any q marksQ _ (by omega) (by decide)).mono ?_
  rintro e w4 ⟨rfl, hb4⟩
  have hb24 := HT3.out.trans (hb4.mono HT3.out.size)
  have hb14 := hb1.trans (hb24.mono hb1.size)
  have hz14 := hb14.size
  clear hb2 hb3 hb4
  rw [HC1.out, HC2.out, HH.out]
  go_wp2_with fail
  refine (split_any u 47 w4 (by omega) (HRD.out.below hb14)).mono ?_
  rintro e w5 ⟨b, c, rfl, hcap, hwb, hbw, hcells, hb5⟩
  generalize hxs0 : splitOn 47 u = xs at hcells hcap hcnt hroom hne0
  have HXS := Lib.hid hxs0
  clear hxs0
  have HNE := Lib.hid hne0
  have HR := Lib.hid hroom
  clear hne0 hroom
  have hb15 := hb14.trans (hb5.mono hz14)
  have hbf5 := HBZ.out.trans (hb15.mono (by simp))
  have hz5 := hb5.size
  have HBX5 := Lib.hid (HBX.out.below hb15 (by simp))
  clear hb5
  go_wp2_with fail
  go_loopw [13, 65] (fun s i wr => ∃ (v : Value) (k : Nat) (left : List Bs), v = s ∧ k ≤ xs.length ∧ i = .int .i64 k ∧ wr.ownsRow w5.heap.size 9 1 v left.length (svals left) ∧ Below w5.heap.size w5 wr ∧ left.length ≤ k ∧ Hid (dotsL xs [] = dotsL (xs.drop k) left) ∧ Hid (room left + room (xs.drop k) ≤ u.length + 1)) (fun _ i _ => xs.length - (intOf i).toNat)
  case atStart => exact ⟨_, 0, [], rfl, Nat.zero_le _, rfl, World.ownsRow_nil _ _ _ _, Below.refl _ _, Nat.zero_le _, rfl, by show room [] + room xs ≤ _; rw [HR.out, room_nil]; omega⟩
  case round =>
    obtain ⟨v, k, left, rfl, hk, rfl, hown, hb, hll, H, HRM⟩ := hrel
    have hz := hb.size
    have hsz1 : w.heap.size < w5.heap.size := by have := hb15.size; simp at this; omega
    by_cases hlt : k < xs.length
    · have hc0 := hcells k xs[k] (by simp [hlt])
      rw [Nat.zero_add] at hc0
      have hc := (hb.cell (p := ⟨b, k, none⟩) hbw).trans hc0
      have HD := Lib.hid (drop_cons hlt)
      generalize hx : xs[k] = x at hc HD
      clear hx hc0
      have hrd := room_dropLast left
      by_cases h2 : x = [46, 46]
      · subst h2
        by_cases hl0 : left = []
        · subst hl0
          have HF := Lib.hid (path_none (h := lower h) (q := q2) (has := has) (xs := xs) (by rw [H.out, HD.out, dotsL_up0]))
          obtain ⟨⟨c0, c1, c2, c3⟩, ⟨f0, f1, f2, f3⟩, hsz⟩ := (HBX5.out.below hb hsz1).facts
          have hbf := hbf5.trans (hb.mono (Nat.le_of_lt hsz1))
          rcases owned_cases hown with rfl | ⟨g, cp, rfl⟩
          all_goals
            go_wp2
            refine bodyPost_ret (v := .tuple #[ad0, errV 27]) (by simp [results, Tryz.results101, go_sem, c0, c1, c2, c3]) rfl ⟨?_, ?_⟩
            · rw [HXS.out, HF.out.1, HF.out.2]
            · exact Box.set hbf (Nat.le_refl _) _ _ _ _
        · have hlp : 0 < left.length := List.length_pos_iff.2 hl0
          obtain ⟨g, cp, rfl⟩ := owned_form hown hlp
          obtain ⟨_, hlc, _, _, _⟩ := cellsAt_owned left hown
          have HP := Lib.hid (owned_pop hl0 hown)
          have hln : ((left.length : Int) == 0) = false := beq_eq_false_iff_ne.2 (by omega)
          have HDL := Lib.hid (show left.dropLast.length = left.length - 1 from List.length_dropLast)
          have hi1 : ((left.length : Int) - 1).toNat = left.length - 1 := by omega
          by_cases hend : k + 1 = xs.length
          · have hend1 : ((k : Int) == (xs.length : Int) - 1) = true := beq_iff_eq.2 (by omega)
            have HDE := Lib.hid (show xs.drop (k + 1) = [] from List.drop_of_length_le (by omega))
            clear hend
            have hpop := HP.out
            go_wp2_with ((at_builtin; refine wpList_app tyStrs rfl _ _ rfl w5 w5.heap.size w5.heap.size (.slice (some ⟨g, 0, none⟩) (left.length - 1) cp) (left.length - 1) (svals left.dropLast) rfl (hpop.alloc _) (hb.alloc (by omega) _) (by simp; omega) (Nat.le_refl _) wr.heap.size 1 1 [str []] rfl (blockIs_new _ _ _) rfl (by simp [Value.oneCell']) (by omega) ?_; intro v' w' hown' hb' hgrow'))
            go_roundw
            case rel => exact ⟨_, k + 1, left.dropLast ++ [[]], rfl, by omega, by go_num, by rw [List.length_append, ← svals_append, HDL.out]; exact hown', hb', by rw [List.length_append, HDL.out]; simp; omega, by show dotsL xs [] = _; rw [H.out, HD.out, HDE.out, dotsL_upEnd left hl0], by show room _ + _ ≤ _; have h9 := HRM.out; rw [HD.out, room_cons] at h9; rw [room_append, room_one]; simp at h9 ⊢; omega⟩
            case measure => simp [intOf]; omega
          · have hend1 : ((k : Int) == (xs.length : Int) - 1) = false := beq_eq_false_iff_ne.2 (by omega)
            have HDE := Lib.hid (show xs.drop (k + 1) ≠ [] from fun h => by rw [List.drop_eq_nil_iff] at h; omega)
            go_wp2
            go_roundw
            case rel => exact ⟨_, k + 1, left.dropLast, rfl, by omega, by go_num, by rw [HDL.out]; exact HP.out, hb, by rw [HDL.out]; omega, by show dotsL xs [] = _; rw [H.out, HD.out, dotsL_up _ left hl0 HDE.out], by show room _ + _ ≤ _; have h9 := HRM.out; rw [HD.out, room_cons] at h9; simp at h9 ⊢; omega⟩
            case measure => simp [intOf]; omega
      · by_cases h1 : x = [46]
        · subst h1
          by_cases hend : k + 1 = xs.length
          · have hend1 : ((k : Int) == (xs.length : Int) - 1) = true := beq_iff_eq.2 (by omega)
            have HDE := Lib.hid (show xs.drop (k + 1) = [] from List.drop_of_length_le (by omega))
            clear hend
            go_wp2_with ((at_builtin; refine wpList_app tyStrs rfl _ _ rfl w5 w5.heap.size w5.heap.size v left.length (svals left) rfl (hown.alloc _) (hb.alloc (by omega) _) (by simp; omega) (Nat.le_refl _) wr.heap.size 1 1 [str []] rfl (blockIs_new _ _ _) rfl (by simp [Value.oneCell']) (by omega) ?_; intro v' w' hown' hb' hgrow'))
            go_roundw
            case rel => exact ⟨_, k + 1, left ++ [[]], rfl, by omega, by go_num, by rw [List.length_append, ← svals_append]; exact hown', hb', by simp; omega, by show dotsL xs [] = _; rw [H.out, HD.out, HDE.out, dotsL_dotEnd], by show room _ + _ ≤ _; have h9 := HRM.out; rw [HD.out, room_cons] at h9; rw [room_append, room_one]; simp at h9 ⊢; omega⟩
            case measure => simp [intOf]; omega
          · have hend1 : ((k : Int) == (xs.length : Int) - 1) = false := beq_eq_false_iff_ne.2 (by omega)
            have HDE := Lib.hid (show xs.drop (k + 1) ≠ [] from fun h => by rw [List.drop_eq_nil_iff] at h; omega)
            go_wp2
            go_roundw
            case rel => exact ⟨_, k + 1, left, rfl, by omega, by go_num, hown, hb, by omega, by show dotsL xs [] = _; rw [H.out, HD.out, dotsL_dot _ left HDE.out], by show room _ + _ ≤ _; have h9 := HRM.out; rw [HD.out, room_cons] at h9; simp at h9 ⊢; omega⟩
            case measure => simp [intOf]; omega
        · have h1' : (x == [46]) = false := by simpa using h1
          have h2' : (x == [46, 46]) = false := by simpa using h2
          have HS := Lib.hid (dotsL_seg x (xs.drop (k + 1)) left h2 h1)
          clear h1 h2
          go_wp2_with ((at_builtin; refine wpList_app tyStrs rfl _ _ rfl w5 w5.heap.size w5.heap.size v left.length (svals left) rfl (hown.alloc _) (hb.alloc (by omega) _) (by simp; omega) (Nat.le_refl _) wr.heap.size 1 1 [str x] rfl (blockIs_new _ _ _) rfl (by simp [Value.oneCell']) (by omega) ?_; intro v' w' hown' hb' hgrow'))
          go_roundw
          case rel => exact ⟨_, k + 1, left ++ [x], rfl, by omega, by go_num, by rw [List.length_append, ← svals_append]; exact hown', hb', by simp; omega, by show dotsL xs [] = _; rw [H.out, HD.out, HS.out], by show room _ + _ ≤ _; have h9 := HRM.out; rw [HD.out, room_cons] at h9; rw [room_append, room_one]; omega⟩
          case measure => simp [intOf]; omega
    · have HE2 := Lib.hid (show dotsL xs [] = some left by rw [H.out, List.drop_of_length_le (by omega)]; rfl)
      have HRL := Lib.hid (show room left ≤ u.length + 1 by have h9 := HRM.out; omega)
      have hl0 : left ≠ [] := dotsL_ne xs [] left HE2.out (.inl HNE.out)
      obtain ⟨g, cp, rfl⟩ := owned_form hown (List.length_pos_iff.2 hl0)
      obtain ⟨_, hlc, _, hgl, hcl⟩ := cellsAt_owned left hown
      have HJ := Lib.hid (slashed_join left hl0)
      have hjl : (Lib.join left [47]).length ≤ 536870912 := by have h9 := HRL.out; rw [room, ← HJ.out] at h9; simp at h9; omega
      clear H HRM
      go_wp2_with fail
      refine (join_any g cp left [47] wr hcl hgl (by omega) hlc (by omega)).mono ?_
      rintro e w6 ⟨rfl, hb6⟩
      have hb56 := hb.trans (hb6.mono hz)
      have hz6 := hb6.size
      clear hcl hown
      go_wp2_with fail
      rw [HJ.out]
      have hsl : (slashed left).length ≤ 536870913 := by have h9 := HRL.out; unfold room at h9; omega
      refine (text_any (lower h) (slashed left) q2 has _ (by omega) (by omega) (by omega)).mono ?_
      rintro e w7 ⟨rfl, hb7⟩
      have hbl := box_new w6 145 (.string ⟨(lower h).toArray⟩) (.string ⟨(slashed left).toArray⟩) (.string ⟨q2.toArray⟩) (.bool has)
      obtain ⟨⟨d0, d1, d2, d3⟩, ⟨_, _, _, _⟩, _⟩ := (hbl.below hb7 (by simp)).facts
      have hb57 := hb56.trans (((Below.refl w6.heap.size w6).alloc (Nat.le_refl _) (.cells #[.string ⟨(lower h).toArray⟩, .string ⟨(slashed left).toArray⟩, .string ⟨q2.toArray⟩, .bool has] 145)).trans (hb7.mono (by simp)) |>.mono (by have := hb56.size; omega))
      obtain ⟨⟨c0, c1, c2, c3⟩, ⟨f0, f1, f2, f3⟩, hsz⟩ := (HBX5.out.below hb57 hsz1).facts
      have hbf := hbf5.trans (hb57.mono (Nat.le_of_lt hsz1))
      clear hbl
      by_cases hlg : (adText (lower h) (slashed left) q2 has).length > 1024
      · have HF := Lib.hid (path_large HE2.out hlg)
        go_wp2_with fail
        refine bodyPost_ret (v := .tuple #[ad0, errV 5]) (by simp [results, Tryz.results101, go_sem, c0, c1, c2, c3]) rfl ⟨?_, ?_⟩
        · rw [HXS.out, HF.out.1, HF.out.2]
        · exact Box.set hbf (Nat.le_refl _) _ _ _ _
      · have HF := Lib.hid (path_ok HE2.out hlg)
        go_wp2_with fail
        refine bodyPost_ret (v := .tuple #[adV ⟨lower h, slashed left, q2, has⟩, .nilIface]) (by simp [results, Tryz.results101, go_sem, c0, c1, c2, c3]) rfl ⟨?_, ?_⟩
        · rw [HXS.out, HF.out.1, HF.out.2]
        · exact Box.set hbf (Nat.le_refl _) _ _ _ _
end A1
end Go.Proofs.YtjijijjkkhpjnaaGreatDoor
end

section
namespace Go.Proofs.YtjijijjkkhpjnaaGreatDoor
open Go.RowKit Pl Ad
namespace A1

def parseV : Except Int Adr → Value
  | .ok a => adV a
  | .error _ => ad0
def parseE : Except Int Adr → Value
  | .ok _ => .nilIface
  | .error n => errV n

theorem head_47 {p : Bs} (h : p.head? = some 47) : ∃ u, p = 47 :: u := by
  cases p with
  | nil => cases h
  | cons x t => simp at h; exact ⟨t, by rw [h]⟩

/-- The ways through Parse. -/
theorem parse_ways (h t : Bs) :
    (hostOk h = false ∧ parse h t = .error 8) ∨
    (hostOk h = true ∧ (cutAt 63 t).1.head? ≠ some 47 ∧ parse h t = .error 27) ∨
    (hostOk h = true ∧ ∃ p q has, cutAt 63 t = (47 :: p, q, has) ∧ (canon (47 :: p) marksP = none ∨ canon q marksQ = none) ∧ parse h t = .error 27) ∨
    (hostOk h = true ∧ ∃ p q has u q2, cutAt 63 t = (47 :: p, q, has) ∧ canon (47 :: p) marksP = some (47 :: u) ∧ canon q marksQ = some q2 ∧
      parse h t = match dotsL (splitOn 47 u) [] with
        | none => .error 27
        | some left => if (adText (lower h) (slashed left) q2 has).length > 1024 then .error 5 else .ok ⟨lower h, slashed left, q2, has⟩) := by
  cases hk : hostOk h with
  | false => exact .inl ⟨rfl, by simp [parse, hk]⟩
  | true =>
    refine .inr ?_
    by_cases hs : (cutAt 63 t).1.head? = some 47
    · refine .inr ?_
      obtain ⟨p, hp⟩ := head_47 hs
      have hcut : cutAt 63 t = (47 :: p, (cutAt 63 t).2.1, (cutAt 63 t).2.2) := by rw [← hp]
      cases hc1 : canon (47 :: p) marksP with
      | none => exact .inl ⟨rfl, p, _, _, hcut, .inl hc1, by simp [parse, hk, hp, hc1]⟩
      | some p2 =>
        cases hc2 : canon (cutAt 63 t).2.1 marksQ with
        | none => exact .inl ⟨rfl, p, _, _, hcut, .inr hc2, by simp [parse, hk, hp, hc1, hc2]⟩
        | some q2 =>
          obtain ⟨u, rfl, hu⟩ := canon_slash p p2 hc1
          refine .inr ⟨rfl, p, _, _, u, q2, hcut, hc1, hc2, ?_⟩
          simp [parse, hk, hp, hc1, hc2]
          rfl
    · exact .inl ⟨rfl, hs, by simp [parse, hk, hs]⟩

theorem path_parse (h : Bs) (xs : List Bs) (q : Bs) (has : Bool) (r : Except Int Adr)
    (hr : r = match dotsL xs [] with
        | none => .error 27
        | some left => if (adText h (slashed left) q has).length > 1024 then .error 5 else .ok ⟨h, slashed left, q, has⟩) : pathV h xs q has = parseV r ∧ pathE h xs q has = parseE r := by
  subst hr
  unfold pathV pathE
  cases dotsL xs [] with
  | none => exact ⟨rfl, rfl⟩
  | some left =>
    simp only
    split <;> exact ⟨rfl, rfl⟩

theorem parse_any (h t : Bs) (w : World) (hh : h.length ≤ 536870912) (ht : t.length ≤ 536870912) (hr : Ready w) :
    Calls Tryz.prog 101 #[.string ⟨h.toArray⟩, .string ⟨t.toArray⟩] w fun e w' => e = .returned (.tuple #[parseV (parse h t), parseE (parse h t)]) ∧ Below w.heap.size w w' := by
  have hcl := cutAt_len 63 t
  rcases parse_ways h t with ⟨hk, e⟩ | ⟨hk, hs, e⟩ | ⟨hk, p, q, has, hs, hc, e⟩ | ⟨hk, p, q, has, u, q2, hs, hc1, hc2, e⟩
  · rw [e]; exact parse_host h t w hh hr hk
  · rw [e]; exact parse_slash h t w hh ht hr hk hs
  · rw [hs] at hcl; simp at hcl
    rw [e]; exact parse_canon h t p q has w hh ht (by omega) (by omega) hr hk hs hc
  · rw [hs] at hcl; simp at hcl
    obtain ⟨e1, e2⟩ := path_parse (lower h) (splitOn 47 u) q2 has _ e
    rw [← e1, ← e2]
    exact parse_dots h t p q u q2 has w hh ht (by omega) (by omega) hr hk hs hc1 hc2

theorem parse_ok {h t : Bs} {a : Adr} (w : World) (hh : h.length ≤ 536870912) (ht : t.length ≤ 536870912) (hr : Ready w) (hp : parse h t = .ok a) :
    Calls Tryz.prog 101 #[.string ⟨h.toArray⟩, .string ⟨t.toArray⟩] w fun e w' => e = .returned (.tuple #[adV a, .nilIface]) ∧ Below w.heap.size w w' := by
  have := parse_any h t w hh ht hr
  rw [hp] at this; exact this
theorem parse_err {h t : Bs} {n : Int} (w : World) (hh : h.length ≤ 536870912) (ht : t.length ≤ 536870912) (hr : Ready w) (hp : parse h t = .error n) :
    Calls Tryz.prog 101 #[.string ⟨h.toArray⟩, .string ⟨t.toArray⟩] w fun e w' => e = .returned (.tuple #[ad0, errV n]) ∧ Below w.heap.size w w' := by
  have := parse_any h t w hh ht hr
  rw [hp] at this; exact this
end A1
end Go.Proofs.YtjijijjkkhpjnaaGreatDoor
end
end

section
namespace Go.Proofs.YtjijijjkkhpjnaaGreatDoor
open Go.RowKit Pl Ad
attribute [local go_sem] ba_get conv_one conv_one_drewN ba_append ba_extract_zero ba_extract_end
set_option maxRecDepth 100000
set_option maxHeartbeats 4000000
set_option linter.unusedVariables false
namespace A1

theorem Box.drewBelow {w w' : World} {R T B : Nat} {v0 v1 v2 v3 : Value} (h : Box w R T v0 v1 v2 v3) (hb : Below B w.drew w') (hR : R < B) : Box w' R T v0 v1 v2 v3 := (hb.block R hR).trans h
theorem Box.drew {w : World} {R T : Nat} {v0 v1 v2 v3 : Value} (h : Box w R T v0 v1 v2 v3) : Box w.drew R T v0 v1 v2 v3 := h
theorem Box.stored {w : World} {R T : Nat} {v0 v1 v2 v3 : Value} (h : Box w R T v0 v1 v2 v3) (a b c d : Value) : Box ((((w.setCell ⟨R, 0, none⟩ a).setCell ⟨R, 1, none⟩ b).setCell ⟨R, 2, none⟩ c).setCell ⟨R, 3, none⟩ d) R T a b c d := by
  unfold Box at h ⊢
  simp [World.setCell, Array.getElem?_modify, h]
theorem Box.other {w : World} {R A T : Nat} {v0 v1 v2 v3 : Value} (h : Box w R T v0 v1 v2 v3) (hne : R < A) (a b c d : Value) : Box ((((w.setCell ⟨A, 0, none⟩ a).setCell ⟨A, 1, none⟩ b).setCell ⟨A, 2, none⟩ c).setCell ⟨A, 3, none⟩ d) R T v0 v1 v2 v3 :=
  h.below (Box.set (B := A) (Below.refl A w) (Nat.le_refl _) a b c d) hne

theorem indexByte_47 (l : Bs) (w : World) :
    Calls Tryz.prog 100 #[.string ⟨l.toArray⟩, .int .u8 47] w fun e w' => e = .returned (.int .i64 (Lib.indexByte l 47)) ∧ w = w' := indexByte_any l 47 w

theorem read_miss (t : Bs) (w : World) (hi : Lib.indexByte t 47 = -1) :
    Calls Tryz.prog 72 #[.string ⟨t.toArray⟩] w fun e w' => e = .returned (.tuple #[ad0, errV 2]) ∧ Below w.heap.size w w' := by
  have HI := Lib.hid hi
  clear hi
  have hb := (Below.refl w.heap.size w).alloc (Nat.le_refl _) (.cells #[.string ⟨#[]⟩, .string ⟨#[]⟩, .string ⟨#[]⟩, .bool false] 145)
  go_enter Tryz.func72, Tryz.ntmps72
  go_wp2_with fail
  refine (indexByte_47 t _).mono ?_
  rintro e w1 ⟨rfl, rfl⟩
  rw [HI.out]
  go_wp2_with fail
  exact bodyPost_ret (v := .tuple #[ad0, errV 2]) (by simp [results, Tryz.results72, go_sem]) rfl ⟨rfl, hb⟩

theorem take_len {t p : Bs} {k : Nat} (h : t.take k = p) (ht : t.length ≤ 134217728) : p.length ≤ 134217728 := by
  subst h; rw [List.length_take]; omega
theorem drop_len {t q : Bs} {k : Nat} (h : t.drop k = q) (ht : t.length ≤ 134217728) : q.length ≤ 134217728 := by
  subst h; rw [List.length_drop]; omega

theorem read_err (t p q : Bs) (k : Nat) (w : World) (hr : Ready w) (ht : t.length ≤ 134217728) (hk : k ≤ t.length) (hi : Lib.indexByte t 47 = (k : Int)) (h1 : t.take k = p) (h2 : t.drop k = q) (n : Int) (hp : parse p q = .error n) :
    Calls Tryz.prog 72 #[.string ⟨t.toArray⟩] w fun e w' => e = .returned (.tuple #[ad0, errV 2]) ∧ Below w.heap.size w w' := by
  have HI := Lib.hid hi
  have HP := Lib.hid hp
  have hlp := take_len h1 ht
  have hlq := drop_len h2 ht
  clear hi hp
  have hb := (Below.refl w.heap.size w).alloc (Nat.le_refl _) (.cells #[.string ⟨#[]⟩, .string ⟨#[]⟩, .string ⟨#[]⟩, .bool false] 145)
  have hbx := box_new w 145 (.string ⟨#[]⟩) (.string ⟨#[]⟩) (.string ⟨#[]⟩) (.bool false)
  have HB := Lib.hid hb
  have HBX := Lib.hid hbx
  have hba := hb.drew.alloc (by simp) (.cells #[.string ⟨#[]⟩, .string ⟨#[]⟩, .string ⟨#[]⟩, .bool false] 145)
  have HBA := Lib.hid hba
  have HQ1 := Lib.hid (hbx.drew.below ((Below.refl (w.heap.size + 1) _).alloc (by simp) (.cells #[.string ⟨#[]⟩, .string ⟨#[]⟩, .string ⟨#[]⟩, .bool false] 145)) (Nat.lt_succ_self _))
  have HXA : Hid (Box ((w.alloc (.cells #[.string ⟨#[]⟩, .string ⟨#[]⟩, .string ⟨#[]⟩, .bool false] 145)).drew.alloc (.cells #[.string ⟨#[]⟩, .string ⟨#[]⟩, .string ⟨#[]⟩, .bool false] 145)) (w.heap.size + 1) 145 (.string ⟨#[]⟩) (.string ⟨#[]⟩) (.string ⟨#[]⟩) (.bool false)) := by have h9 := box_new (w.alloc (.cells #[.string ⟨#[]⟩, .string ⟨#[]⟩, .string ⟨#[]⟩, .bool false] 145)).drew 145 (.string ⟨#[]⟩) (.string ⟨#[]⟩) (.string ⟨#[]⟩) (.bool false); rw [show (w.alloc (.cells #[.string ⟨#[]⟩, .string ⟨#[]⟩, .string ⟨#[]⟩, .bool false] 145)).drew.heap.size = w.heap.size + 1 by simp] at h9; exact h9
  have HRD := Lib.hid (hr.below hb.drew)
  have HRA := Lib.hid (hr.below hba)
  clear hr hb hba hbx
  go_enter Tryz.func72, Tryz.ntmps72
  go_wp2_with fail
  refine (indexByte_47 t _).mono ?_
  rintro e w1 ⟨rfl, rfl⟩
  rw [HI.out]
  go_wp2_with fail
  go_region_with (go_at_call 101; first
    | (refine (parse_err _ (by omega) (by omega) HRD.out HP.out).mono ?_
       rintro e w2 ⟨rfl, hb2⟩
       have hT2 := HBX.out.drewBelow hb2 (by simp <;> omega)
       have hz2 := hT2.facts.2.2
       have hT5 := hT2.below ((Below.refl w2.heap.size w2).alloc (Nat.le_refl _) (.cells #[.string ⟨#[]⟩, .string ⟨#[]⟩, .string ⟨#[]⟩, .bool false] 145)) hz2
       have hX5 := box_new w2 145 (.string ⟨#[]⟩) (.string ⟨#[]⟩) (.string ⟨#[]⟩) (.bool false)
       have hbw := HB.out.drew.trans (hb2.mono (by simp <;> omega))
       obtain ⟨⟨a0, a1, a2, a3⟩, ⟨_, _, _, _⟩, _⟩ := hT2.facts
       have hB5 := Lib.hid ((HB.out.drew.trans (hb2.mono (by simp <;> omega))).alloc (Nat.le_of_lt hz2) (.cells #[.string ⟨#[]⟩, .string ⟨#[]⟩, .string ⟨#[]⟩, .bool false] 145)))
    | (refine (parse_err _ (by omega) (by omega) HRA.out HP.out).mono ?_
       rintro e w2 ⟨rfl, hb2⟩
       have hT2 := HQ1.out.below hb2 (by simp <;> omega)
       have hX2 := HXA.out.below hb2 (by simp <;> omega)
       have hz2 := hT2.facts.2.2
       have hT5 := hT2.other (Nat.lt_succ_self _) (.string ⟨#[]⟩) (.string ⟨#[]⟩) (.string ⟨#[]⟩) (.bool false)
       have hX5 := hX2.stored (.string ⟨#[]⟩) (.string ⟨#[]⟩) (.string ⟨#[]⟩) (.bool false)
       have hB5 := Lib.hid (Box.set (HBA.out.trans (hb2.mono (by simp <;> omega))) (Nat.le_succ _) (.string ⟨#[]⟩) (.string ⟨#[]⟩) (.string ⟨#[]⟩) (.bool false))
       obtain ⟨⟨a0, a1, a2, a3⟩, _⟩ := hT2.facts
       obtain ⟨⟨_, _, _, _⟩, ⟨_, _, _, _⟩, _⟩ := hX2.facts))
  all_goals
    obtain ⟨⟨c0, c1, c2, c3⟩, ⟨f0, f1, f2, f3⟩, hs5⟩ := hT5.facts
    go_wp2_with fail
    refine bodyPost_ret (v := .tuple #[ad0, errV 2]) (by simp [results, Tryz.results72, go_sem, c0, c1, c2, c3, a0, a1, a2, a3, hz2]) rfl ⟨rfl, ?_⟩
    first | exact Box.set hB5.out (Nat.le_refl _) _ _ _ _ | exact (Box.set hbw (Nat.le_refl _) _ _ _ _).alloc (by simp <;> omega) _

theorem read_oth (t p q : Bs) (k : Nat) (w : World) (hr : Ready w) (ht : t.length ≤ 134217728) (hk : k ≤ t.length) (hi : Lib.indexByte t 47 = (k : Int)) (h1 : t.take k = p) (h2 : t.drop k = q) (ah ap aq : Bs) (ab : Bool) (hp : parse p q = .ok ⟨ah, ap, aq, ab⟩) (hx : ¬ adText ah ap aq ab = t) :
    Calls Tryz.prog 72 #[.string ⟨t.toArray⟩] w fun e w' => e = .returned (.tuple #[ad0, errV 2]) ∧ Below w.heap.size w w' := by
  have HI := Lib.hid hi
  have HP := Lib.hid hp
  have hlp := take_len h1 ht
  have hlq := drop_len h2 ht
  have HL := Lib.hid (parse_lens hp)
  obtain ⟨l1, l2, l3⟩ := HL.out
  simp only at l1 l2 l3
  have hx2 : (adText ah ap aq ab == t) = false := by simpa using hx
  clear hx
  clear hi hp
  have hb := (Below.refl w.heap.size w).alloc (Nat.le_refl _) (.cells #[.string ⟨#[]⟩, .string ⟨#[]⟩, .string ⟨#[]⟩, .bool false] 145)
  have hbx := box_new w 145 (.string ⟨#[]⟩) (.string ⟨#[]⟩) (.string ⟨#[]⟩) (.bool false)
  have HB := Lib.hid hb
  have HBX := Lib.hid hbx
  have hba := hb.drew.alloc (by simp) (.cells #[.string ⟨#[]⟩, .string ⟨#[]⟩, .string ⟨#[]⟩, .bool false] 145)
  have HBA := Lib.hid hba
  have HQ1 := Lib.hid (hbx.drew.below ((Below.refl (w.heap.size + 1) _).alloc (by simp) (.cells #[.string ⟨#[]⟩, .string ⟨#[]⟩, .string ⟨#[]⟩, .bool false] 145)) (Nat.lt_succ_self _))
  have HXA : Hid (Box ((w.alloc (.cells #[.string ⟨#[]⟩, .string ⟨#[]⟩, .string ⟨#[]⟩, .bool false] 145)).drew.alloc (.cells #[.string ⟨#[]⟩, .string ⟨#[]⟩, .string ⟨#[]⟩, .bool false] 145)) (w.heap.size + 1) 145 (.string ⟨#[]⟩) (.string ⟨#[]⟩) (.string ⟨#[]⟩) (.bool false)) := by have h9 := box_new (w.alloc (.cells #[.string ⟨#[]⟩, .string ⟨#[]⟩, .string ⟨#[]⟩, .bool false] 145)).drew 145 (.string ⟨#[]⟩) (.string ⟨#[]⟩) (.string ⟨#[]⟩) (.bool false); rw [show (w.alloc (.cells #[.string ⟨#[]⟩, .string ⟨#[]⟩, .string ⟨#[]⟩, .bool false] 145)).drew.heap.size = w.heap.size + 1 by simp] at h9; exact h9
  have HRD := Lib.hid (hr.below hb.drew)
  have HRA := Lib.hid (hr.below hba)
  clear hr hb hba hbx
  go_enter Tryz.func72, Tryz.ntmps72
  go_wp2_with fail
  refine (indexByte_47 t _).mono ?_
  rintro e w1 ⟨rfl, rfl⟩
  rw [HI.out]
  go_wp2_with fail
  go_region_with (go_at_call 101; first
    | (refine (parse_ok _ (by omega) (by omega) HRD.out HP.out).mono ?_
       rintro e w2 ⟨rfl, hb2⟩
       have hT2 := HBX.out.drewBelow hb2 (by simp <;> omega)
       have hz2 := hT2.facts.2.2
       have hT5 := hT2.below ((Below.refl w2.heap.size w2).alloc (Nat.le_refl _) (.cells #[.string ⟨ah.toArray⟩, .string ⟨ap.toArray⟩, .string ⟨aq.toArray⟩, .bool ab] 145)) hz2
       have hX5 := box_new w2 145 (.string ⟨ah.toArray⟩) (.string ⟨ap.toArray⟩) (.string ⟨aq.toArray⟩) (.bool ab)
       have hbw := HB.out.drew.trans (hb2.mono (by simp <;> omega))
       obtain ⟨⟨a0, a1, a2, a3⟩, ⟨_, _, _, _⟩, _⟩ := hT2.facts
       have hB5 := Lib.hid ((HB.out.drew.trans (hb2.mono (by simp <;> omega))).alloc (Nat.le_of_lt hz2) (.cells #[.string ⟨ah.toArray⟩, .string ⟨ap.toArray⟩, .string ⟨aq.toArray⟩, .bool ab] 145)))
    | (refine (parse_ok _ (by omega) (by omega) HRA.out HP.out).mono ?_
       rintro e w2 ⟨rfl, hb2⟩
       have hT2 := HQ1.out.below hb2 (by simp <;> omega)
       have hX2 := HXA.out.below hb2 (by simp <;> omega)
       have hz2 := hT2.facts.2.2
       have hT5 := hT2.other (Nat.lt_succ_self _) (.string ⟨ah.toArray⟩) (.string ⟨ap.toArray⟩) (.string ⟨aq.toArray⟩) (.bool ab)
       have hX5 := hX2.stored (.string ⟨ah.toArray⟩) (.string ⟨ap.toArray⟩) (.string ⟨aq.toArray⟩) (.bool ab)
       have hB5 := Lib.hid (Box.set (HBA.out.trans (hb2.mono (by simp <;> omega))) (Nat.le_succ _) (.string ⟨ah.toArray⟩) (.string ⟨ap.toArray⟩) (.string ⟨aq.toArray⟩) (.bool ab))
       obtain ⟨⟨a0, a1, a2, a3⟩, _⟩ := hT2.facts
       obtain ⟨⟨_, _, _, _⟩, ⟨_, _, _, _⟩, _⟩ := hX2.facts))
  all_goals
    obtain ⟨⟨d0, d1, d2, d3⟩, _, ht5⟩ := hX5.facts
    have hs5 := hT5.facts.2.2
    go_wp2_with fail
    refine (text_any ah ap aq ab _ (by omega) (by omega) (by omega)).mono ?_
    rintro e w3 ⟨rfl, hb3⟩
    have hT6 := hT5.below hb3 hs5
    have hX6 := hX5.below hb3 ht5
    have hB6 := Lib.hid (hB5.out.trans (hb3.mono hB5.out.size))
    clear d0 d1 d2 d3 hb3
    obtain ⟨⟨c0, c1, c2, c3⟩, ⟨f0, f1, f2, f3⟩, hs6⟩ := hT6.facts
    obtain ⟨⟨d0, d1, d2, d3⟩, _, ht6⟩ := hX6.facts
    go_wp2_with fail
    refine bodyPost_ret (v := .tuple #[ad0, errV 2]) (by simp [results, Tryz.results72, go_sem, c0, c1, c2, c3]) rfl ⟨rfl, ?_⟩
    exact Box.set hB6.out (Nat.le_refl _) _ _ _ _

theorem read_ok (t p q : Bs) (k : Nat) (w : World) (hr : Ready w) (ht : t.length ≤ 134217728) (hk : k ≤ t.length) (hi : Lib.indexByte t 47 = (k : Int)) (h1 : t.take k = p) (h2 : t.drop k = q) (ah ap aq : Bs) (ab : Bool) (hp : parse p q = .ok ⟨ah, ap, aq, ab⟩) (hx : adText ah ap aq ab = t) :
    Calls Tryz.prog 72 #[.string ⟨t.toArray⟩] w fun e w' => e = .returned (.tuple #[adV ⟨ah, ap, aq, ab⟩, .nilIface]) ∧ Below w.heap.size w w' := by
  have HI := Lib.hid hi
  have HP := Lib.hid hp
  have hlp := take_len h1 ht
  have hlq := drop_len h2 ht
  have HL := Lib.hid (parse_lens hp)
  obtain ⟨l1, l2, l3⟩ := HL.out
  simp only at l1 l2 l3
  have HX := Lib.hid hx
  clear hx
  clear hi hp
  have hb := (Below.refl w.heap.size w).alloc (Nat.le_refl _) (.cells #[.string ⟨#[]⟩, .string ⟨#[]⟩, .string ⟨#[]⟩, .bool false] 145)
  have hbx := box_new w 145 (.string ⟨#[]⟩) (.string ⟨#[]⟩) (.string ⟨#[]⟩) (.bool false)
  have HB := Lib.hid hb
  have HBX := Lib.hid hbx
  have hba := hb.drew.alloc (by simp) (.cells #[.string ⟨#[]⟩, .string ⟨#[]⟩, .string ⟨#[]⟩, .bool false] 145)
  have HBA := Lib.hid hba
  have HQ1 := Lib.hid (hbx.drew.below ((Below.refl (w.heap.size + 1) _).alloc (by simp) (.cells #[.string ⟨#[]⟩, .string ⟨#[]⟩, .string ⟨#[]⟩, .bool false] 145)) (Nat.lt_succ_self _))
  have HXA : Hid (Box ((w.alloc (.cells #[.string ⟨#[]⟩, .string ⟨#[]⟩, .string ⟨#[]⟩, .bool false] 145)).drew.alloc (.cells #[.string ⟨#[]⟩, .string ⟨#[]⟩, .string ⟨#[]⟩, .bool false] 145)) (w.heap.size + 1) 145 (.string ⟨#[]⟩) (.string ⟨#[]⟩) (.string ⟨#[]⟩) (.bool false)) := by have h9 := box_new (w.alloc (.cells #[.string ⟨#[]⟩, .string ⟨#[]⟩, .string ⟨#[]⟩, .bool false] 145)).drew 145 (.string ⟨#[]⟩) (.string ⟨#[]⟩) (.string ⟨#[]⟩) (.bool false); rw [show (w.alloc (.cells #[.string ⟨#[]⟩, .string ⟨#[]⟩, .string ⟨#[]⟩, .bool false] 145)).drew.heap.size = w.heap.size + 1 by simp] at h9; exact h9
  have HRD := Lib.hid (hr.below hb.drew)
  have HRA := Lib.hid (hr.below hba)
  clear hr hb hba hbx
  go_enter Tryz.func72, Tryz.ntmps72
  go_wp2_with fail
  refine (indexByte_47 t _).mono ?_
  rintro e w1 ⟨rfl, rfl⟩
  rw [HI.out]
  go_wp2_with fail
  go_region_with (go_at_call 101; first
    | (refine (parse_ok _ (by omega) (by omega) HRD.out HP.out).mono ?_
       rintro e w2 ⟨rfl, hb2⟩
       have hT2 := HBX.out.drewBelow hb2 (by simp <;> omega)
       have hz2 := hT2.facts.2.2
       have hT5 := hT2.below ((Below.refl w2.heap.size w2).alloc (Nat.le_refl _) (.cells #[.string ⟨ah.toArray⟩, .string ⟨ap.toArray⟩, .string ⟨aq.toArray⟩, .bool ab] 145)) hz2
       have hX5 := box_new w2 145 (.string ⟨ah.toArray⟩) (.string ⟨ap.toArray⟩) (.string ⟨aq.toArray⟩) (.bool ab)
       have hbw := HB.out.drew.trans (hb2.mono (by simp <;> omega))
       obtain ⟨⟨a0, a1, a2, a3⟩, ⟨_, _, _, _⟩, _⟩ := hT2.facts
       have hB5 := Lib.hid ((HB.out.drew.trans (hb2.mono (by simp <;> omega))).alloc (Nat.le_of_lt hz2) (.cells #[.string ⟨ah.toArray⟩, .string ⟨ap.toArray⟩, .string ⟨aq.toArray⟩, .bool ab] 145)))
    | (refine (parse_ok _ (by omega) (by omega) HRA.out HP.out).mono ?_
       rintro e w2 ⟨rfl, hb2⟩
       have hT2 := HQ1.out.below hb2 (by simp <;> omega)
       have hX2 := HXA.out.below hb2 (by simp <;> omega)
       have hz2 := hT2.facts.2.2
       have hT5 := hT2.other (Nat.lt_succ_self _) (.string ⟨ah.toArray⟩) (.string ⟨ap.toArray⟩) (.string ⟨aq.toArray⟩) (.bool ab)
       have hX5 := hX2.stored (.string ⟨ah.toArray⟩) (.string ⟨ap.toArray⟩) (.string ⟨aq.toArray⟩) (.bool ab)
       have hB5 := Lib.hid (Box.set (HBA.out.trans (hb2.mono (by simp <;> omega))) (Nat.le_succ _) (.string ⟨ah.toArray⟩) (.string ⟨ap.toArray⟩) (.string ⟨aq.toArray⟩) (.bool ab))
       obtain ⟨⟨a0, a1, a2, a3⟩, _⟩ := hT2.facts
       obtain ⟨⟨_, _, _, _⟩, ⟨_, _, _, _⟩, _⟩ := hX2.facts))
  all_goals
    obtain ⟨⟨d0, d1, d2, d3⟩, _, ht5⟩ := hX5.facts
    have hs5 := hT5.facts.2.2
    go_wp2_with fail
    refine (text_any ah ap aq ab _ (by omega) (by omega) (by omega)).mono ?_
    rintro e w3 ⟨rfl, hb3⟩
    rw [HX.out]
    have hT6 := hT5.below hb3 hs5
    have hX6 := hX5.below hb3 ht5
    have hB6 := Lib.hid (hB5.out.trans (hb3.mono hB5.out.size))
    clear d0 d1 d2 d3 hb3
    obtain ⟨⟨c0, c1, c2, c3⟩, ⟨f0, f1, f2, f3⟩, hs6⟩ := hT6.facts
    obtain ⟨⟨d0, d1, d2, d3⟩, _, ht6⟩ := hX6.facts
    go_wp2_with fail
    refine bodyPost_ret (v := .tuple #[adV ⟨ah, ap, aq, ab⟩, .nilIface]) (by simp [results, Tryz.results72, go_sem, c0, c1, c2, c3]) rfl ⟨rfl, ?_⟩
    exact Box.set hB6.out (Nat.le_refl _) _ _ _ _

theorem read_yes (t : Bs) (a : Adr) (w : World) (hr : Ready w) (ht : t.length ≤ 134217728) (h : readL t = some a) :
    Calls Tryz.prog 72 #[.string ⟨t.toArray⟩] w fun e w' => e = .returned (.tuple #[adV a, .nilIface]) ∧ Below w.heap.size w w' := by
  obtain ⟨hp, hx⟩ := readL_some h
  obtain ⟨ah, ap, aq, ab⟩ := a
  rcases indexByte_one 47 t with ⟨_, h2⟩ | ⟨p, q, rfl, h2, h3⟩
  · rw [readL_miss h2] at h; cases h
  · rw [cutAt_hit 47 q p h2] at hp
    exact read_ok _ p (47 :: q) p.length w hr ht (by simp) h3 (by simp) (by simp) ah ap aq ab (by simpa using hp) hx
theorem read_no (t : Bs) (w : World) (hr : Ready w) (ht : t.length ≤ 134217728) (h : readL t = none) :
    Calls Tryz.prog 72 #[.string ⟨t.toArray⟩] w fun e w' => e = .returned (.tuple #[ad0, errV 2]) ∧ Below w.heap.size w w' := by
  rcases indexByte_one 47 t with ⟨h1, h2⟩ | ⟨p, q, rfl, h2, h3⟩
  · exact read_miss t w h1
  · cases hp : parse p (47 :: q) with
    | error n => exact read_err _ p (47 :: q) p.length w hr ht (by simp) h3 (by simp) (by simp) n hp
    | ok a =>
      obtain ⟨ah, ap, aq, ab⟩ := a
      refine read_oth _ p (47 :: q) p.length w hr ht (by simp) h3 (by simp) (by simp) ah ap aq ab hp fun hx => ?_
      have := readL_ok (t := p ++ 47 :: q) (a := ⟨ah, ap, aq, ab⟩) (by rw [cutAt_hit 47 q p h2]; simpa using hp) hx
      rw [this] at h; cases h

end A1
end Go.Proofs.YtjijijjkkhpjnaaGreatDoor
end

section
section
namespace Go.Proofs.YtjijijjkkhpjnaaGreatDoor.Ad
open Pl

/-! ### lying under a path -/
def undB (p q : Bs) : Bool := q.isPrefixOf p && (decide (p.length = q.length) || decide (q.getLast? = some 47) || decide ((p.drop q.length).head? = some 47))
/-- Is the address of a text under that of another? -/
def undT (x p : Bs) : Bool := match readL x, readL p with
  | some a, some b => decide (a.host = b.host) && undB a.path b.path
  | _, _ => false
theorem undT_some {x p : Bs} {a b : Adr} (h1 : readL x = some a) (h2 : readL p = some b) : undT x p = (decide (a.host = b.host) && undB a.path b.path) := by simp [undT, h1, h2]
theorem undT_none1 {x p : Bs} (h : readL x = none) : undT x p = false := by simp [undT, h]
theorem undT_none2 {x p : Bs} {a : Adr} (h1 : readL x = some a) (h : readL p = none) : undT x p = false := by simp [undT, h1, h]
def goodC (b : UInt8) : Bool := decide (33 ≤ b.toNat) && decide (b.toNat ≤ 126)
def goodB (s : Bs) : Bool := decide (1 ≤ s.length) && decide (s.length ≤ 32) && s.all goodC
theorem goodB_len {s : Bs} (h : ¬ (1 ≤ s.length ∧ s.length ≤ 32)) : goodB s = false := by
  unfold goodB
  by_cases h1 : 1 ≤ s.length
  · rw [decide_eq_false (p := s.length ≤ 32) (fun h2 => h ⟨h1, h2⟩)]; simp
  · rw [decide_eq_false h1]; simp
theorem goodB_all {s : Bs} (h1 : 1 ≤ s.length) (h2 : s.length ≤ 32) : goodB s = s.all goodC := by simp [goodB, h1, h2]
theorem goodB_lens {s : Bs} (h : goodB s = true) : 1 ≤ s.length ∧ s.length ≤ 32 := by
  unfold goodB at h
  simp only [Bool.and_eq_true, decide_eq_true_eq] at h
  exact h.1
theorem goodB_mem {s : Bs} (h : goodB s = true) : ∀ b ∈ s, goodC b = true := by
  unfold goodB at h
  rw [Bool.and_eq_true] at h
  exact List.all_eq_true.1 h.2
theorem goodB_noblank {s : Bs} (h : goodB s = true) : (32 : UInt8) ∉ s := fun hm => by
  have := goodB_mem h 32 hm
  revert this; decide
theorem goodB_notab {s : Bs} (h : goodB s = true) : (9 : UInt8) ∉ s := fun hm => by
  have := goodB_mem h 9 hm
  revert this; decide

/-! ### purges -/
structure Pg where
  kind : Int
  tenant : Int
  value : Bs
  deriving DecidableEq
structure It where
  tenant : Int
  addr : Bs
  tags : List Bs
/-- Is the Value right? -/
def valueB (p : Pg) : Bool := if p.kind = 3 then goodB p.value else match readL p.value with
  | some a => decide (p.kind = 1) || !a.has
  | none => false
theorem valueB_tag {p : Pg} (h : p.kind = 3) : valueB p = goodB p.value := by simp [valueB, h]
theorem valueB_none {p : Pg} (h : ¬ p.kind = 3) (hr : readL p.value = none) : valueB p = false := by simp [valueB, h, hr]
theorem valueB_some {p : Pg} {a : Adr} (h : ¬ p.kind = 3) (hr : readL p.value = some a) : valueB p = (decide (p.kind = 1) || !a.has) := by simp [valueB, h, hr]
/-- The number of the error. -/
def checkN (p : Pg) : Int := if p.kind < 1 ∨ 3 < p.kind then 2 else if p.tenant < 0 ∨ 16 ≤ p.tenant then 1 else if valueB p then 0 else 2
theorem checkN_kind {p : Pg} (h : p.kind < 1 ∨ 3 < p.kind) : checkN p = 2 := if_pos h
theorem checkN_tenant {p : Pg} (h : ¬ (p.kind < 1 ∨ 3 < p.kind)) (h2 : p.tenant < 0 ∨ 16 ≤ p.tenant) : checkN p = 1 := by rw [checkN, if_neg h, if_pos h2]
theorem checkN_value {p : Pg} (h : ¬ (p.kind < 1 ∨ 3 < p.kind)) (h2 : ¬ (p.tenant < 0 ∨ 16 ≤ p.tenant)) : checkN p = if valueB p then 0 else 2 := by rw [checkN, if_neg h, if_neg h2]
theorem checkN_ok {p : Pg} (h : checkN p = 0) : (1 ≤ p.kind ∧ p.kind ≤ 3) ∧ (0 ≤ p.tenant ∧ p.tenant < 16) ∧ valueB p = true := by
  by_cases h1 : p.kind < 1 ∨ 3 < p.kind
  · rw [checkN_kind h1] at h; cases h
  · by_cases h2 : p.tenant < 0 ∨ 16 ≤ p.tenant
    · rw [checkN_tenant h1 h2] at h; cases h
    · rw [checkN_value h1 h2] at h
      refine ⟨by omega, by omega, ?_⟩
      cases hv : valueB p with
      | true => rfl
      | false => rw [hv] at h; simp at h
/-- Does a purge match an item? -/
def matchB (p : Pg) (x : It) : Bool := (readL x.addr).isSome && decide (checkN p = 0) && decide (p.tenant = x.tenant) &&
  (if p.kind = 1 then decide (p.value = x.addr) else if p.kind = 2 then undT x.addr p.value else decide (p.value ∈ x.tags))
theorem matchB_iff (p : Pg) (x : It) : matchB p x = true ↔ (readL x.addr).isSome = true ∧ checkN p = 0 ∧ p.tenant = x.tenant ∧ ((p.kind = 1 ∧ p.value = x.addr) ∨ (p.kind = 2 ∧ undT x.addr p.value = true) ∨ (p.kind ≠ 1 ∧ p.kind ≠ 2 ∧ p.value ∈ x.tags)) := by
  unfold matchB
  simp only [Bool.and_eq_true, decide_eq_true_eq]
  constructor
  · rintro ⟨⟨⟨h1, h2⟩, h3⟩, h4⟩
    refine ⟨h1, h2, h3, ?_⟩
    by_cases k1 : p.kind = 1
    · rw [if_pos k1] at h4; exact .inl ⟨k1, by simpa using h4⟩
    · rw [if_neg k1] at h4
      by_cases k2 : p.kind = 2
      · rw [if_pos k2] at h4; exact .inr (.inl ⟨k2, h4⟩)
      · rw [if_neg k2] at h4; exact .inr (.inr ⟨k1, k2, by simpa using h4⟩)
  · rintro ⟨h1, h2, h3, h4⟩
    refine ⟨⟨⟨h1, h2⟩, h3⟩, ?_⟩
    rcases h4 with ⟨k, h⟩ | ⟨k, h⟩ | ⟨k1, k2, h⟩
    · rw [if_pos k]; simpa using h
    · rw [if_neg (by omega), if_pos k]; exact h
    · rw [if_neg k1, if_neg k2]; simpa using h
def wordOf (k : Int) : Bs := if k = 1 then [101, 120, 97, 99, 116] else if k = 2 then [112, 114, 101, 102, 105, 120] else [116, 97, 103]
/-- A number from 0 to 15 in decimal. -/
def decOf (t : Int) : Bs := if t < 10 then [UInt8.ofNat (48 + t.toNat)] else [49, UInt8.ofNat (38 + t.toNat)]
def fmtT (p : Pg) : Bs := wordOf p.kind ++ 32 :: (decOf p.tenant ++ 32 :: p.value)
theorem wordOf_noblank (k : Int) : (32 : UInt8) ∉ wordOf k := by
  unfold wordOf; split
  · decide
  · split <;> decide
theorem decOf_all (t : Int) (h0 : 0 ≤ t) (h1 : t < 16) : (32 : UInt8) ∉ decOf t ∧ ∀ s : Int, 0 ≤ s → s < 16 → decOf t = decOf s → t = s := by
  obtain ⟨n, rfl⟩ := Int.eq_ofNat_of_zero_le h0
  have g : ∀ n : Fin 16, (32 : UInt8) ∉ decOf (n.val : Int) ∧ ∀ m : Fin 16, decOf (n.val : Int) = decOf (m.val : Int) → n.val = m.val := by decide +kernel
  obtain ⟨g1, g2⟩ := g ⟨n, by omega⟩
  refine ⟨g1, fun s hs0 hs1 e => ?_⟩
  obtain ⟨m, rfl⟩ := Int.eq_ofNat_of_zero_le hs0
  have := g2 ⟨m, by omega⟩ e
  simp only at this
  omega
/-- The purge with a text. -/
def ParseIs (s : Bs) (r : Option Pg) : Prop := match r with
  | some p => checkN p = 0 ∧ fmtT p = s
  | none => ∀ p, checkN p = 0 → fmtT p ≠ s
end Go.Proofs.YtjijijjkkhpjnaaGreatDoor.Ad
end

section
namespace Go.Proofs.YtjijijjkkhpjnaaGreatDoor.Ad
open Pl

/-- A log: its window, all purges that were accepted, how many of them are dropped. -/
structure LogM where
  win : Nat
  all : List Pg
  dropped : Nat
namespace LogM
def push (L : LogM) (p : Pg) : LogM := ⟨L.win, L.all ++ [p], max L.dropped (L.all.length + 1 - L.win)⟩
def app (L : LogM) (p : Pg) : LogM := if checkN p = 0 then L.push p else L
def cut (L : LogM) (n : Int) : LogM := ⟨L.win, L.all, max L.dropped (min n (L.all.length : Int)).toNat⟩
end LogM

namespace LogM
end LogM

end Go.Proofs.YtjijijjkkhpjnaaGreatDoor.Ad
end

section
namespace Go.Proofs.YtjijijjkkhpjnaaGreatDoor.Ad
open Pl

def wordsL : List ByteArray := [⟨([] : Bs).toArray⟩, ⟨([101, 120, 97, 99, 116] : Bs).toArray⟩, ⟨([112, 114, 101, 102, 105, 120] : Bs).toArray⟩, ⟨([116, 97, 103] : Bs).toArray⟩]
/-- The place of a word among the words. -/
def kindOf (x : Bs) : Int := Lib.idxOfS wordsL ⟨x.toArray⟩
theorem kindOf_word {k : Int} (h : 1 ≤ k ∧ k ≤ 3) : kindOf (wordOf k) = k := by
  have c : k = 1 ∨ k = 2 ∨ k = 3 := by omega
  rcases c with rfl | rfl | rfl <;> decide +kernel
theorem atoi_dec {t : Int} (h : 0 ≤ t ∧ t < 16) : Lib.atoiAll (decOf t) = .ok t := by
  obtain ⟨n, rfl⟩ := Int.eq_ofNat_of_zero_le h.1
  have g : ∀ n : Fin 16, Lib.atoiAll (decOf (n.val : Int)) = .ok (n.val : Int) := by decide +kernel
  exact g ⟨n, by omega⟩
def restOf (s : Bs) : Bs := (cutAt 32 s).2.1
/-- The purge that is tried at a text whose number is n. -/
def tryP (s : Bs) (n : Int) : Pg := ⟨kindOf (cutAt 32 s).1, n, (cutAt 32 (restOf s)).2.1⟩
def parseO (s : Bs) : Option Pg := match Lib.atoiAll (cutAt 32 (restOf s)).1 with
  | .ok n => if checkN (tryP s n) = 0 ∧ fmtT (tryP s n) = s then some (tryP s n) else none
  | _ => none
theorem parse_parts {s : Bs} {p : Pg} (hc : checkN p = 0) (h : fmtT p = s) : Lib.atoiAll (cutAt 32 (restOf s)).1 = .ok p.tenant ∧ tryP s p.tenant = p := by
  obtain ⟨hk, ht, _⟩ := checkN_ok hc
  obtain ⟨k, t, v⟩ := p
  simp only at hk ht
  have h1 : cutAt 32 s = (wordOf k, decOf t ++ 32 :: v, true) := by rw [← h]; exact cutAt_hit 32 _ _ (wordOf_noblank k)
  have h2 : restOf s = decOf t ++ 32 :: v := by unfold restOf; rw [h1]
  have h3 : cutAt 32 (restOf s) = (decOf t, v, true) := by rw [h2]; exact cutAt_hit 32 _ _ (decOf_all t ht.1 ht.2).1
  refine ⟨by rw [h3]; exact atoi_dec ht, ?_⟩
  unfold tryP
  rw [h3, h1, kindOf_word hk]
theorem parseO_num {s : Bs} {n : Int} (h : Lib.atoiAll (cutAt 32 (restOf s)).1 = .ok n) : parseO s = if checkN (tryP s n) = 0 ∧ fmtT (tryP s n) = s then some (tryP s n) else none := by unfold parseO; rw [h]
theorem parseO_yes {s : Bs} {n : Int} (h : Lib.atoiAll (cutAt 32 (restOf s)).1 = .ok n) (hc : checkN (tryP s n) = 0) (hf : fmtT (tryP s n) = s) : parseO s = some (tryP s n) := by rw [parseO_num h, if_pos ⟨hc, hf⟩]
theorem parseO_no1 {s : Bs} (h : ∀ n, Lib.atoiAll (cutAt 32 (restOf s)).1 ≠ .ok n) : parseO s = none := by
  unfold parseO
  split
  · rename_i n hn; exact absurd hn (h n)
  · rfl
theorem parseO_no2 {s : Bs} {n : Int} (h : Lib.atoiAll (cutAt 32 (restOf s)).1 = .ok n) (hc : ¬ checkN (tryP s n) = 0) : parseO s = none := by rw [parseO_num h, if_neg (fun e => hc e.1)]
theorem parseO_no3 {s : Bs} {n : Int} (h : Lib.atoiAll (cutAt 32 (restOf s)).1 = .ok n) (hf : ¬ fmtT (tryP s n) = s) : parseO s = none := by rw [parseO_num h, if_neg (fun e => hf e.2)]
theorem parseO_is (s : Bs) : ParseIs s (parseO s) := by
  cases hp : parseO s with
  | some p =>
    unfold parseO at hp
    split at hp
    · split at hp
      · rename_i h
        cases hp
        exact h
      · cases hp
    · cases hp
  | none =>
    intro p hc hf
    obtain ⟨h1, h2⟩ := parse_parts hc hf
    rw [parseO_yes h1 (by rw [h2]; exact hc) (by rw [h2]; exact hf)] at hp
    cases hp
theorem restOf_len (s : Bs) : (restOf s).length ≤ s.length := (cutAt_len 32 s).2
end Go.Proofs.YtjijijjkkhpjnaaGreatDoor.Ad
end
end

section
namespace Go.Proofs.YtjijijjkkhpjnaaGreatDoor
open Go.RowKit Pl Ad
attribute [local go_sem] ba_get ba_append ba_extract_end ba_extract_zero ba_extract
set_option maxRecDepth 100000
set_option maxHeartbeats 4000000
set_option linter.unusedVariables false
namespace A1
theorem ret_bool' {a b : Bool} (h : a = b) : Ending.returned (.bool a) = Ending.returned (.bool b) := by rw [h]

theorem good_any (l : Bs) (w : World) (hl : l.length ≤ 2147483648) :
    Calls Tryz.prog 41 #[.string ⟨l.toArray⟩] w fun e w' => e = .returned (.bool (goodB l)) ∧ w = w' := by
  by_cases h1 : 1 ≤ l.length
  · by_cases h2 : l.length ≤ 32
    · have HG := Lib.hid (goodB_all h1 h2)
      go_enter Tryz.func41, Tryz.ntmps41
      go_wp2
      go_loop [14] (fun i => ∃ k : Nat, k ≤ l.length ∧ i = .int .i64 k ∧ Hid (l.all goodC = (l.drop k).all goodC)) (fun i => l.length - (intOf i).toNat)
      case atStart => exact ⟨0, Nat.zero_le _, rfl, rfl⟩
      case round =>
        obtain ⟨k, hk, rfl, H⟩ := hrel
        by_cases hlt : k < l.length
        · have H2 := Lib.hid (drop_cons hlt)
          have h255 := byte_lt l[k]
          generalize hx : l[k] = x at H2 h255
          by_cases ha : (x.toNat : Int) < 33
          · have HC := Lib.hid (show goodC x = false by unfold goodC; rw [decide_eq_false (by omega)]; rfl)
            go_wp2
            go_ret
            exact ⟨ret_bool' (by rw [HG.out, H.out, H2.out, List.all_cons, HC.out]; rfl), rfl⟩
          · by_cases hb : (126 : Int) < x.toNat
            · have HC := Lib.hid (show goodC x = false by unfold goodC; rw [decide_eq_false (p := x.toNat ≤ 126) (by omega)]; simp)
              go_wp2
              go_ret
              exact ⟨ret_bool' (by rw [HG.out, H.out, H2.out, List.all_cons, HC.out]; rfl), rfl⟩
            · have HC := Lib.hid (show goodC x = true by unfold goodC; rw [decide_eq_true (by omega), decide_eq_true (by omega)]; rfl)
              go_wp2
              go_round
              case rel => exact ⟨k + 1, by omega, by go_num, by show _ = _; rw [H.out, H2.out, List.all_cons, HC.out]; rfl⟩
              case measure => simp [intOf]; omega
        · go_wp2
          go_ret
          exact ⟨ret_bool' (by rw [HG.out, H.out, List.drop_of_length_le (by omega)]; rfl), rfl⟩
    · have HG := Lib.hid (goodB_len (s := l) (by omega))
      go_enter Tryz.func41, Tryz.ntmps41
      go_wp2
      go_ret
      exact ⟨ret_bool' HG.out.symm, rfl⟩
  · have HG := Lib.hid (goodB_len (s := l) (by omega))
    go_enter Tryz.func41, Tryz.ntmps41
    go_wp2
    go_ret
    exact ⟨ret_bool' HG.out.symm, rfl⟩

end A1
end Go.Proofs.YtjijijjkkhpjnaaGreatDoor
end

section
namespace Go.Proofs.YtjijijjkkhpjnaaGreatDoor
open Go.RowKit Pl Ad
attribute [local go_sem] ba_get ba_append ba_extract_end ba_extract_zero ba_extract
set_option maxRecDepth 100000
set_option maxHeartbeats 4000000
set_option linter.unusedVariables false
namespace A1

/-- Block R holds three cells. -/
def Box3 (w : World) (R T : Nat) (v0 v1 v2 : Value) : Prop := w.heap[R]? = some (.cells #[v0, v1, v2] T (0, 0))
theorem Box3.facts {w : World} {R T : Nat} {v0 v1 v2 : Value} (h : Box3 w R T v0 v1 v2) :
    (w.cell? ⟨R, 0, none⟩ = some v0 ∧ w.cell? ⟨R, 1, none⟩ = some v1 ∧ w.cell? ⟨R, 2, none⟩ = some v2) ∧ (w.frozen? ⟨R, 0, none⟩ = false ∧ w.frozen? ⟨R, 1, none⟩ = false ∧ w.frozen? ⟨R, 2, none⟩ = false) ∧ R < w.heap.size := by
  refine ⟨⟨?_, ?_, ?_⟩, ⟨?_, ?_, ?_⟩, (Array.getElem?_eq_some_iff.1 h).1⟩
  all_goals first
    | (rw [cell_of_row w R _ _ T _ h]; rfl)
    | (unfold World.frozen?; rw [h]; rfl)
theorem Box3.below {w w' : World} {R T B : Nat} {v0 v1 v2 : Value} (h : Box3 w R T v0 v1 v2) (hb : Below B w w') (hR : R < B) : Box3 w' R T v0 v1 v2 := (hb.block R hR).trans h
theorem box3_new (w : World) (T : Nat) (v0 v1 v2 : Value) : Box3 (w.alloc (.cells #[v0, v1, v2] T)) w.heap.size T v0 v1 v2 := heap_alloc_new w _
theorem Box3.drew {w : World} {R T : Nat} {v0 v1 v2 : Value} (h : Box3 w R T v0 v1 v2) : Box3 w.drew R T v0 v1 v2 := h
theorem Box3.alloc {w : World} {R T : Nat} {v0 v1 v2 : Value} (h : Box3 w R T v0 v1 v2) (o : Obj) : Box3 (w.alloc o) R T v0 v1 v2 := h.below ((Below.refl _ _).alloc (Nat.le_refl _) o) h.facts.2.2
theorem Box3.older {w w' : World} {R T : Nat} {v0 v1 v2 : Value} (h : Box3 w R T v0 v1 v2) (hb : Below w.heap.size w w') : Box3 w' R T v0 v1 v2 := h.below hb h.facts.2.2
@[reducible] def pgV (p : Pg) : Value := .agg #[.int .i64 p.kind, .int .i64 p.tenant, .string ⟨p.value.toArray⟩]

end A1
end Go.Proofs.YtjijijjkkhpjnaaGreatDoor
end

