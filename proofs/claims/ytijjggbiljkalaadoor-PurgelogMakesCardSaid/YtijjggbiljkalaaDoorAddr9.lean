/- Contract: address.Parse. Conditions: texts of at most 2^29 bytes. -/
import Derived.Test.YtijjggbiljkalaaDoorAddr3
import Derived.Test.YtijjggbiljkalaaDoorAddr8
namespace Go.Proofs.YtijjggbiljkalaaDoor
open Go.RowKit Pl Ad
attribute [local go_sem] ba_get conv_one conv_one_drewN ba_append ba_extract
set_option maxRecDepth 100000
set_option maxHeartbeats 4000000
set_option linter.unusedVariables false
namespace A1

/-- Block R holds an address' cells. -/
def Box (w : World) (R T : Nat) (v0 v1 v2 v3 : Value) : Prop := w.heap[R]? = some (.cells #[v0, v1, v2, v3] T (0, 0))
theorem Box.facts {w : World} {R T : Nat} {v0 v1 v2 v3 : Value} (h : Box w R T v0 v1 v2 v3) :
    (w.cell? ⟨R, 0, none⟩ = some v0 ∧ w.cell? ⟨R, 1, none⟩ = some v1 ∧ w.cell? ⟨R, 2, none⟩ = some v2 ∧ w.cell? ⟨R, 3, none⟩ = some v3) ∧ (w.frozen? ⟨R, 0, none⟩ = false ∧ w.frozen? ⟨R, 1, none⟩ = false ∧ w.frozen? ⟨R, 2, none⟩ = false ∧ w.frozen? ⟨R, 3, none⟩ = false) ∧ R < w.heap.size := by
  refine ⟨⟨?_, ?_, ?_, ?_⟩, ⟨?_, ?_, ?_, ?_⟩, (Array.getElem?_eq_some_iff.1 h).1⟩
  all_goals first
    | (rw [cell_of_row w R _ _ T _ h]; rfl)
    | (unfold World.frozen?; rw [h]; rfl)
theorem Box.below {w w' : World} {R T B : Nat} {v0 v1 v2 v3 : Value} (h : Box w R T v0 v1 v2 v3) (hb : Below B w w') (hR : R < B) : Box w' R T v0 v1 v2 v3 := (hb.block R hR).trans h
theorem box_new (w : World) (T : Nat) (v0 v1 v2 v3 : Value) : Box (w.alloc (.cells #[v0, v1, v2, v3] T)) w.heap.size T v0 v1 v2 v3 := heap_alloc_new w _

theorem Box.set {w : World} {R : Nat} {B : Nat} {W : World} (hb : Below B W w) (hR : B ≤ R) (a b c d : Value) : Below B W ((((w.setCell ⟨R, 0, none⟩ a).setCell ⟨R, 1, none⟩ b).setCell ⟨R, 2, none⟩ c).setCell ⟨R, 3, none⟩ d) :=
  (((hb.setCell (p := ⟨R, 0, none⟩) hR a).setCell (p := ⟨R, 1, none⟩) hR b).setCell (p := ⟨R, 2, none⟩) hR c).setCell (p := ⟨R, 3, none⟩) hR d
@[reducible] def adV (a : Adr) : Value := .agg #[.string ⟨a.host.toArray⟩, .string ⟨a.path.toArray⟩, .string ⟨a.query.toArray⟩, .bool a.has]
@[reducible] def ad0 : Value := .agg #[.string ⟨#[]⟩, .string ⟨#[]⟩, .string ⟨#[]⟩, .bool false]

/-- What Parse returns of a host, the segments, a query: the address, the error. -/
def pathV (h : Bs) (xs : List Bs) (q : Bs) (has : Bool) : Value :=
  match dotsL xs [] with
  | none => ad0
  | some left => if (adText h (slashed left) q has).length > 1024 then ad0 else adV ⟨h, slashed left, q, has⟩
def pathE (h : Bs) (xs : List Bs) (q : Bs) (has : Bool) : Value :=
  match dotsL xs [] with
  | none => errV 27
  | some left => if (adText h (slashed left) q has).length > 1024 then errV 5 else .nilIface
theorem path_none {h q : Bs} {xs : List Bs} {has : Bool} (hx : dotsL xs [] = none) : pathV h xs q has = ad0 ∧ pathE h xs q has = errV 27 := by
  unfold pathV pathE; rw [hx]; exact ⟨rfl, rfl⟩
theorem path_large {h q : Bs} {xs left : List Bs} {has : Bool} (hx : dotsL xs [] = some left) (hl : (adText h (slashed left) q has).length > 1024) : pathV h xs q has = ad0 ∧ pathE h xs q has = errV 5 := by
  unfold pathV pathE; rw [hx]; exact ⟨if_pos hl, if_pos hl⟩
theorem path_ok {h q : Bs} {xs left : List Bs} {has : Bool} (hx : dotsL xs [] = some left) (hl : ¬ (adText h (slashed left) q has).length > 1024) : pathV h xs q has = adV ⟨h, slashed left, q, has⟩ ∧ pathE h xs q has = .nilIface := by
  unfold pathV pathE; rw [hx]; exact ⟨if_neg hl, if_neg hl⟩

theorem parse_host (h t : Bs) (w : World) (hh : h.length ≤ 536870912) (hr : Ready w) (hk : hostOk h = false) :
    Calls Tryd.prog 72 #[.string ⟨h.toArray⟩, .string ⟨t.toArray⟩] w fun e w' => e = .returned (.tuple #[ad0, errV 8]) ∧ Below w.heap.size w w' := by
  have HE := Lib.hid (hostE_no h hk)
  clear hk
  have hbx := box_new w 114 (.string ⟨#[]⟩) (.string ⟨#[]⟩) (.string ⟨#[]⟩) (.bool false)
  have HBX := Lib.hid hbx
  have hbz := (Below.refl w.heap.size w).alloc (Nat.le_refl _) (.cells #[.string ⟨#[]⟩, .string ⟨#[]⟩, .string ⟨#[]⟩, .bool false] 114)
  have HBZ := Lib.hid hbz
  have HRD := Lib.hid (hr.below hbz)
  clear hbx hr hbz
  go_enter Tryd.func72, Tryd.ntmps72
  go_wp2_with fail
  refine (host_any h _ (by omega) HRD.out).mono ?_
  rintro e w1 ⟨rfl, hb1⟩
  rw [HE.out]
  obtain ⟨⟨c0, c1, c2, c3⟩, ⟨f0, f1, f2, f3⟩, hsz⟩ := (HBX.out.below hb1 (by simp)).facts
  have hb := HBZ.out.trans (hb1.mono (by simp))
  go_wp2_with fail
  refine bodyPost_ret (v := .tuple #[ad0, errV 8]) (by simp [results, Tryd.results72, go_sem, c0, c1, c2, c3]) rfl ⟨rfl, ?_⟩
  exact Box.set hb (Nat.le_refl _) _ _ _ _

theorem parse_slash (h t : Bs) (w : World) (hh : h.length ≤ 536870912) (ht : t.length ≤ 536870912) (hr : Ready w) (hk : hostOk h = true) (hs : (cutAt 63 t).1.head? ≠ some 47) :
    Calls Tryd.prog 72 #[.string ⟨h.toArray⟩, .string ⟨t.toArray⟩] w fun e w' => e = .returned (.tuple #[ad0, errV 27]) ∧ Below w.heap.size w w' := by
  have HE := Lib.hid (hostE_yes h hk)
  clear hk
  have HT := Lib.hid hs
  clear hs
  have hbx := box_new w 114 (.string ⟨#[]⟩) (.string ⟨#[]⟩) (.string ⟨#[]⟩) (.bool false)
  have HBX := Lib.hid hbx
  have hbz := (Below.refl w.heap.size w).alloc (Nat.le_refl _) (.cells #[.string ⟨#[]⟩, .string ⟨#[]⟩, .string ⟨#[]⟩, .bool false] 114)
  have HBZ := Lib.hid hbz
  have HRD := Lib.hid (hr.below hbz)
  clear hbx hr hbz
  go_enter Tryd.func72, Tryd.ntmps72
  go_wp2_with fail
  refine (host_any h _ (by omega) HRD.out).mono ?_
  rintro e w1 ⟨rfl, hb1⟩
  rw [HE.out]
  go_wp2_with fail
  refine (cut_any t 63 _ (by omega) (HRD.out.below hb1)).mono ?_
  rintro e w2 ⟨rfl, hb2⟩
  obtain ⟨⟨c0, c1, c2, c3⟩, ⟨f0, f1, f2, f3⟩, hsz⟩ := ((HBX.out.below hb1 (by simp)).below hb2 (by have := hb1.size; simp at this; omega)).facts
  have hb := HBZ.out.trans ((hb1.trans (hb2.mono hb1.size)).mono (by simp))
  have hp := HT.out
  generalize (cutAt 63 t).1 = p at hp ⊢
  match p, hp with
  | [], _ =>
    go_wp2_with fail
    refine bodyPost_ret (v := .tuple #[ad0, errV 27]) (by simp [results, Tryd.results72, go_sem, c0, c1, c2, c3]) rfl ⟨rfl, ?_⟩
    exact Box.set hb (Nat.le_refl _) _ _ _ _
  | x :: p', hp =>
    have hx : ¬ x = 47 := fun h => hp (by rw [h]; rfl)
    have hx1 : ((x.toNat : Int) == 47) = false := beq_eq_false_iff_ne.2 (fun h => hx (UInt8.toNat_inj.1 (show x.toNat = 47 by omega)))
    have hx2 : ((x.toNat : Int) != 47) = true := by rw [bne, hx1]; rfl
    clear hx hp
    go_wp2_with fail
    refine bodyPost_ret (v := .tuple #[ad0, errV 27]) (by simp [results, Tryd.results72, go_sem, c0, c1, c2, c3]) rfl ⟨rfl, ?_⟩
    exact Box.set hb (Nat.le_refl _) _ _ _ _
end A1
end Go.Proofs.YtijjggbiljkalaaDoor
