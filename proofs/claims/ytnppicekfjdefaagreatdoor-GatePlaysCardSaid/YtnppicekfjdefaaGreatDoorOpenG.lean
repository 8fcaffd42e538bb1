/- The acts of the laws over the gate, opened (an act holds a slice of purges). No condition. -/
import Derived.Test.YtnppicekfjdefaaGreatDoorActs
namespace Go.Proofs.YtnppicekfjdefaaGreatDoor
open Go.ChangeShapes Go.WideShapes Go.Deep Go.RowKit Pl A1 Ad
set_option maxRecDepth 100000
namespace Ad
/-- An act: a Jump or an Apply; u is its slice's value. -/
structure GAct where
  jump : Bool
  first : Int
  u : Value
  list : List Pg
def actG (a : GAct) : List Value := [.bool a.jump, .int .i64 a.first, a.u]
end Ad
namespace Op
theorem pgs_trod {H : Type} {enc : TypeId × Value → H} {w : World} {base n : Nat} {spare : Nat → Bool} {held : Bool} {v : Value} {y : DataW H × List MemPlace}
    (h : DataW.trod enc Tryz.prog w base spare held n 31 [v] = some y) : ∃ xs : List Pg, RowsV pcells 3 w v xs ∧ xs.length ≤ 9223372036854775807 := by
  obtain ⟨xs, h1, h2, _⟩ := open_rows (R := pcells) (k := 3) (fun _ => True) Tryz.underlying31 (by kernel_rfl) (by decide) (fun n cs y hl h => by
    obtain ⟨k, t, l, rfl⟩ := pg_trod hl h
    exact ⟨⟨k, t, l⟩, rfl, trivial⟩) h
  exact ⟨xs, h1, h2⟩
theorem gact_trod {H : Type} {enc : TypeId × Value → H} {w : World} {base n : Nat} {spare : Nat → Bool} {held : Bool} {cs : List Value} {y : DataW H × List MemPlace} (hl : cs.length = 3)
    (h : DataW.trod enc Tryz.prog w base spare held n 37 cs = some y) : ∃ x : GAct, cs = actG x ∧ (RowsV pcells 3 w x.u x.list ∧ x.list.length ≤ 9223372036854775807) := by
  obtain ⟨y0, y1, y2, m, _, _, h0, h1, h2⟩ := trod_struct3 Tryz.underlying37 h
  match cs, hl with
  | [a, b, c], _ =>
    obtain ⟨s, e0, _⟩ := DataW.trod_bool Tryz.underlying4 h0
    obtain ⟨k, e1, _, _⟩ := DataW.trod_int Tryz.underlying3 h1
    have h2' : DataW.trod enc Tryz.prog w base spare held m 31 [c] = some y2 := h2
    obtain ⟨xs, h3, h4⟩ := pgs_trod h2'
    have e0' : [a] = [Value.bool s] := e0
    have e1' : [b] = [Value.int .i64 k] := e1
    cases e0'; cases e1'
    exact ⟨⟨s, k, c, xs⟩, rfl, h3, h4⟩
theorem gacts_trod {H : Type} {enc : TypeId × Value → H} {w : World} {base n : Nat} {spare : Nat → Bool} {held : Bool} {v : Value} {y : DataW H × List MemPlace}
    (h : DataW.trod enc Tryz.prog w base spare held n 22 [v] = some y) : ∃ xs : List GAct, RowsV actG 3 w v xs ∧ xs.length ≤ 9223372036854775807 ∧ ∀ a ∈ xs, RowsV pcells 3 w a.u a.list ∧ a.list.length ≤ 9223372036854775807 :=
  open_rows (R := actG) (k := 3) (fun a => RowsV pcells 3 w a.u a.list ∧ a.list.length ≤ 9223372036854775807) Tryz.underlying22 (by kernel_rfl) (by decide) (fun n cs y hl h => gact_trod hl h) h
end Op
end Go.Proofs.YtnppicekfjdefaaGreatDoor
