/- Contract: the reference's dots. Conditions: texts of at most 2^31 bytes. Contract: address.Parse. Conditions: texts of at most 2^29 bytes. Contract: address.Parse where host and path are in form. Conditions: texts of at most 2^29 bytes. Contract: address.Parse, in one statement. Conditions: texts of at most 2^29 bytes. -/
import Derived.Test.YtbpbopjlcidefaaDoorAddrP
import Derived.Test.YtbpbopjlcidefaaDoorAddr1
section
namespace Go.Proofs.YtbpbopjlcidefaaDoor
open Go.RowKit Pl Ad
attribute [local go_sem] ba_get conv_one conv_one_drewN ba_append ba_extract
set_option maxRecDepth 100000
set_option maxHeartbeats 4000000
set_option linter.unusedVariables false
namespace A1

end A1
end Go.Proofs.YtbpbopjlcidefaaDoor
end

section
namespace Go.Proofs.YtbpbopjlcidefaaDoor
open Go.RowKit Pl Ad
attribute [local go_sem] ba_get conv_one conv_one_drewN ba_append ba_extract
set_option maxRecDepth 100000
set_option maxHeartbeats 4000000
set_option linter.unusedVariables false
namespace A1

/-- Block R holds an address' cells. -/
def Box (w : World) (R T : Nat) (v0 v1 v2 v3 : Value) : Prop := w.heap[R]? = some (.cells #[v0, v1, v2, v3] T (0, 0))
theorem Box.facts {w : World} {R T : Nat} {v0 v1 v2 v3 : Value} (h : Box w R T v0 v1 v2 v3) :
    (w.cell? ⟨R, 0, none⟩ = some v0 ∧ w.cell? ⟨R, 1, none⟩ = some v1 ∧ w.cell? ⟨R, 2, none⟩ = some v2 ∧ w.cell? ⟨R, 3, none⟩ = some v3) ∧ (w.frozen? ⟨R, 0, none⟩ = false ∧ w.frozen? ⟨R, 1, none⟩ = false ∧ w.frozen? ⟨R, 2, none⟩ = false ∧ w.frozen? ⟨R, 3, none⟩ = false) ∧ R < w.heap.size := by
  refine ⟨⟨?_, ?_, ?_, ?_⟩, ⟨?_, ?_, ?_, ?_⟩, (Array.getElem?_eq_some_iff.1 h).1⟩
  all_goals first
    | (rw [cell_of_row w R _ _ T _ h]; rfl)
    | (unfold World.frozen?; rw [h]; rfl)
theorem Box.below {w w' : World} {R T B : Nat} {v0 v1 v2 v3 : Value} (h : Box w R T v0 v1 v2 v3) (hb : Below B w w') (hR : R < B) : Box w' R T v0 v1 v2 v3 := (hb.block R hR).trans h
theorem box_new (w : World) (T : Nat) (v0 v1 v2 v3 : Value) : Box (w.alloc (.cells #[v0, v1, v2, v3] T)) w.heap.size T v0 v1 v2 v3 := heap_alloc_new w _

theorem Box.set {w : World} {R : Nat} {B : Nat} {W : World} (hb : Below B W w) (hR : B ≤ R) (a b c d : Value) : Below B W ((((w.setCell ⟨R, 0, none⟩ a).setCell ⟨R, 1, none⟩ b).setCell ⟨R, 2, none⟩ c).setCell ⟨R, 3, none⟩ d) :=
  (((hb.setCell (p := ⟨R, 0, none⟩) hR a).setCell (p := ⟨R, 1, none⟩) hR b).setCell (p := ⟨R, 2, none⟩) hR c).setCell (p := ⟨R, 3, none⟩) hR d
@[reducible] def adV (a : Adr) : Value := .agg #[.string ⟨a.host.toArray⟩, .string ⟨a.path.toArray⟩, .string ⟨a.query.toArray⟩, .bool a.has]
@[reducible] def ad0 : Value := .agg #[.string ⟨#[]⟩, .string ⟨#[]⟩, .string ⟨#[]⟩, .bool false]

/-- What Parse returns of a host, the segments, a query: the address, the error. -/
def pathV (h : Bs) (xs : List Bs) (q : Bs) (has : Bool) : Value :=
  match dotsL xs [] with
  | none => ad0
  | some left => if (adText h (slashed left) q has).length > 1024 then ad0 else adV ⟨h, slashed left, q, has⟩
def pathE (h : Bs) (xs : List Bs) (q : Bs) (has : Bool) : Value :=
  match dotsL xs [] with
  | none => errV 27
  | some left => if (adText h (slashed left) q has).length > 1024 then errV 5 else .nilIface
theorem path_none {h q : Bs} {xs : List Bs} {has : Bool} (hx : dotsL xs [] = none) : pathV h xs q has = ad0 ∧ pathE h xs q has = errV 27 := by
  unfold pathV pathE; rw [hx]; exact ⟨rfl, rfl⟩
theorem path_large {h q : Bs} {xs left : List Bs} {has : Bool} (hx : dotsL xs [] = some left) (hl : (adText h (slashed left) q has).length > 1024) : pathV h xs q has = ad0 ∧ pathE h xs q has = errV 5 := by
  unfold pathV pathE; rw [hx]; exact ⟨if_pos hl, if_pos hl⟩
theorem path_ok {h q : Bs} {xs left : List Bs} {has : Bool} (hx : dotsL xs [] = some left) (hl : ¬ (adText h (slashed left) q has).length > 1024) : pathV h xs q has = adV ⟨h, slashed left, q, has⟩ ∧ pathE h xs q has = .nilIface := by
  unfold pathV pathE; rw [hx]; exact ⟨if_neg hl, if_neg hl⟩

end A1
end Go.Proofs.YtbpbopjlcidefaaDoor
end

section
namespace Go.Proofs.YtbpbopjlcidefaaDoor
open Go.RowKit Pl Ad
attribute [local go_sem] ba_get conv_one conv_one_drewN ba_append ba_extract
set_option maxRecDepth 100000
set_option maxHeartbeats 4000000
set_option linter.unusedVariables false
namespace A1
theorem optS_some (l : Bs) : optS (some l) = l := rfl
attribute [local go_sem] optS_some
end A1
end Go.Proofs.YtbpbopjlcidefaaDoor
end

section
namespace Go.Proofs.YtbpbopjlcidefaaDoor
open Go.RowKit Pl Ad
namespace A1

def parseV : Except Int Adr → Value
  | .ok a => adV a
  | .error _ => ad0
def parseE : Except Int Adr → Value
  | .ok _ => .nilIface
  | .error n => errV n

theorem head_47 {p : Bs} (h : p.head? = some 47) : ∃ u, p = 47 :: u := by
  cases p with
  | nil => cases h
  | cons x t => simp at h; exact ⟨t, by rw [h]⟩

/-- The ways through Parse. -/
theorem parse_ways (h t : Bs) :
    (hostOk h = false ∧ parse h t = .error 8) ∨
    (hostOk h = true ∧ (cutAt 63 t).1.head? ≠ some 47 ∧ parse h t = .error 27) ∨
    (hostOk h = true ∧ ∃ p q has, cutAt 63 t = (47 :: p, q, has) ∧ (canon (47 :: p) marksP = none ∨ canon q marksQ = none) ∧ parse h t = .error 27) ∨
    (hostOk h = true ∧ ∃ p q has u q2, cutAt 63 t = (47 :: p, q, has) ∧ canon (47 :: p) marksP = some (47 :: u) ∧ canon q marksQ = some q2 ∧
      parse h t = match dotsL (splitOn 47 u) [] with
        | none => .error 27
        | some left => if (adText (lower h) (slashed left) q2 has).length > 1024 then .error 5 else .ok ⟨lower h, slashed left, q2, has⟩) := by
  cases hk : hostOk h with
  | false => exact .inl ⟨rfl, by simp [parse, hk]⟩
  | true =>
    refine .inr ?_
    by_cases hs : (cutAt 63 t).1.head? = some 47
    · refine .inr ?_
      obtain ⟨p, hp⟩ := head_47 hs
      have hcut : cutAt 63 t = (47 :: p, (cutAt 63 t).2.1, (cutAt 63 t).2.2) := by rw [← hp]
      cases hc1 : canon (47 :: p) marksP with
      | none => exact .inl ⟨rfl, p, _, _, hcut, .inl hc1, by simp [parse, hk, hp, hc1]⟩
      | some p2 =>
        cases hc2 : canon (cutAt 63 t).2.1 marksQ with
        | none => exact .inl ⟨rfl, p, _, _, hcut, .inr hc2, by simp [parse, hk, hp, hc1, hc2]⟩
        | some q2 =>
          obtain ⟨u, rfl, hu⟩ := canon_slash p p2 hc1
          refine .inr ⟨rfl, p, _, _, u, q2, hcut, hc1, hc2, ?_⟩
          simp [parse, hk, hp, hc1, hc2]
          rfl
    · exact .inl ⟨rfl, hs, by simp [parse, hk, hs]⟩

theorem path_parse (h : Bs) (xs : List Bs) (q : Bs) (has : Bool) (r : Except Int Adr)
    (hr : r = match dotsL xs [] with
        | none => .error 27
        | some left => if (adText h (slashed left) q has).length > 1024 then .error 5 else .ok ⟨h, slashed left, q, has⟩) : pathV h xs q has = parseV r ∧ pathE h xs q has = parseE r := by
  subst hr
  unfold pathV pathE
  cases dotsL xs [] with
  | none => exact ⟨rfl, rfl⟩
  | some left =>
    simp only
    split <;> exact ⟨rfl, rfl⟩

end A1
end Go.Proofs.YtbpbopjlcidefaaDoor
end
