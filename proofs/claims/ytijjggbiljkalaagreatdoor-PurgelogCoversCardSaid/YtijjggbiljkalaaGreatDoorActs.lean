/- The acts of the laws over the log of purges, opened. No condition. An argument that is an array of three slices of acts, opened. No condition. -/
import Derived.Test.YtijjggbiljkalaaGreatDoorRowV
import Derived.Test.YtijjggbiljkalaaGreatDoorOpen
import Derived.Test.YtijjggbiljkalaaGreatDoorPurgP
import Derived.Lib.SmallJoins
section
namespace Go.Proofs.YtijjggbiljkalaaGreatDoor
open Go.ChangeShapes Go.WideShapes Go.Deep Go.RowKit Pl
set_option maxRecDepth 100000
open Ad
namespace Op
theorem u8_range {n : Int} (h : (Lit.int .u8 n).wf = true) : 0 ≤ n ∧ n < 256 := by
  simp only [Lit.wf, Bool.and_eq_true, decide_eq_true_eq] at h
  have h1 : IntKind.min .u8 = 0 := rfl
  have h2 : IntKind.max .u8 = 255 := by decide
  omega
theorem act_trod {H : Type} {enc : TypeId × Value → H} {w : World} {base n : Nat} {spare : Nat → Bool} {held : Bool} {cs : List Value} {y : DataW H × List MemPlace} (hl : cs.length = 5)
    (h : DataW.trod enc Tryz.prog w base spare held n 76 cs = some y) : ∃ x : LAct, cs = actC x ∧ True := by
  obtain ⟨y0, y1, y2, m, _, _, h0, h1, h2⟩ := trod_struct3 Tryz.underlying76 h
  match cs, hl with
  | [a, b, c, d, e], _ =>
    obtain ⟨s, e0, _⟩ := DataW.trod_bool Tryz.underlying4 h0
    obtain ⟨k, e1, _, _⟩ := DataW.trod_int Tryz.underlying3 h1
    have h2' : DataW.trod enc Tryz.prog w base spare held m 74 [c, d, e] = some y2 := h2
    obtain ⟨pk, pt, pv, e2⟩ := pg_trod (by rfl) h2'
    have e0' : [a] = [Value.bool s] := e0
    have e1' : [b] = [Value.int .i64 k] := e1
    cases e0'; cases e1'; cases e2
    exact ⟨⟨s, k, ⟨pk, pt, pv⟩⟩, rfl, trivial⟩
end Op
end Go.Proofs.YtijjggbiljkalaaGreatDoor
end

section
namespace Go.Proofs.YtijjggbiljkalaaGreatDoor.Op
open Go.ChangeShapes Go.WideShapes Go.Deep Go.RowKit Pl A1 Ad
set_option maxRecDepth 100000
theorem rows_trod {H : Type} {enc : TypeId × Value → H} {w : World} {base n : Nat} {spare : Nat → Bool} {held : Bool} {v : Value} {y : DataW H × List MemPlace}
    (h : DataW.trod enc Tryz.prog w base spare held n 22 [v] = some y) : ∃ xs : List LAct, RowsV actC 5 w v xs ∧ xs.length ≤ 9223372036854775807 := by
  obtain ⟨xs, h1, h2, _⟩ := open_rows (R := actC) (k := 5) (fun _ => True) Tryz.underlying22 (by kernel_rfl) (by decide) (fun n cs y hl h => act_trod hl h) h
  exact ⟨xs, h1, h2⟩
end Go.Proofs.YtijjggbiljkalaaGreatDoor.Op
end
