/- The acts of the laws over the log of purges, opened. No condition. An argument that is an array of three slices of acts, opened. No condition. -/
import Derived.Test.YtijjggbiljkalaaDoorRowV
import Derived.Test.YtijjggbiljkalaaDoorOpen
import Derived.Test.YtijjggbiljkalaaDoorPurgP
import Derived.Lib.SmallJoins
section
namespace Go.Proofs.YtijjggbiljkalaaDoor
open Go.ChangeShapes Go.WideShapes Go.Deep Go.RowKit Pl
set_option maxRecDepth 100000
open Ad
namespace Op
theorem u8_range {n : Int} (h : (Lit.int .u8 n).wf = true) : 0 ≤ n ∧ n < 256 := by
  simp only [Lit.wf, Bool.and_eq_true, decide_eq_true_eq] at h
  have h1 : IntKind.min .u8 = 0 := rfl
  have h2 : IntKind.max .u8 = 255 := by decide
  omega
theorem act_trod {H : Type} {enc : TypeId × Value → H} {w : World} {base n : Nat} {spare : Nat → Bool} {held : Bool} {cs : List Value} {y : DataW H × List MemPlace} (hl : cs.length = 5)
    (h : DataW.trod enc Tryd.prog w base spare held n 41 cs = some y) : ∃ x : LAct, cs = actC x ∧ True := by
  obtain ⟨y0, y1, y2, m, _, _, h0, h1, h2⟩ := trod_struct3 Tryd.underlying41 h
  match cs, hl with
  | [a, b, c, d, e], _ =>
    obtain ⟨s, e0, _⟩ := DataW.trod_bool Tryd.underlying4 h0
    obtain ⟨k, e1, _, _⟩ := DataW.trod_int Tryd.underlying3 h1
    have h2' : DataW.trod enc Tryd.prog w base spare held m 39 [c, d, e] = some y2 := h2
    obtain ⟨pk, pt, pv, e2⟩ := pg_trod (by rfl) h2'
    have e0' : [a] = [Value.bool s] := e0
    have e1' : [b] = [Value.int .i64 k] := e1
    cases e0'; cases e1'; cases e2
    exact ⟨⟨s, k, ⟨pk, pt, pv⟩⟩, rfl, trivial⟩
end Op
end Go.Proofs.YtijjggbiljkalaaDoor
end

section
namespace Go.Proofs.YtijjggbiljkalaaDoor.Op
open Go.ChangeShapes Go.WideShapes Go.Deep Go.RowKit Pl A1 Ad
set_option maxRecDepth 100000
theorem rows_trod {H : Type} {enc : TypeId × Value → H} {w : World} {base n : Nat} {spare : Nat → Bool} {held : Bool} {v : Value} {y : DataW H × List MemPlace}
    (h : DataW.trod enc Tryd.prog w base spare held n 32 [v] = some y) : ∃ xs : List LAct, RowsV actC 5 w v xs ∧ xs.length ≤ 9223372036854775807 := by
  obtain ⟨xs, h1, h2, _⟩ := open_rows (R := actC) (k := 5) (fun _ => True) Tryd.underlying32 (by kernel_rfl) (by decide) (fun n cs y hl h => act_trod hl h) h
  exact ⟨xs, h1, h2⟩
theorem open_acts3 {H : Type} {enc : TypeId × Value → H} {w : World} {base : Nat} {spare : Nat → Bool} {held : Bool} {v : Value} {d : DataW H} {p : List MemPlace} {r : Reach} {b0 : Nat}
    (hv : Value.okWide Tryd.prog w r b0 56 v) (h : DataW.Trod enc Tryd.prog w base spare held 56 v d p) :
    ∃ (v0 v1 v2 : Value) (a0 a1 a2 : List LAct), v = .agg #[v0, v1, v2] ∧ (RowsV actC 5 w v0 a0 ∧ a0.length ≤ 9223372036854775807) ∧ (RowsV actC 5 w v1 a1 ∧ a1.length ≤ 9223372036854775807) ∧ RowsV actC 5 w v2 a2 ∧ a2.length ≤ 9223372036854775807 := by
  obtain ⟨cs, rfl, hsz⟩ : ∃ cs, v = .agg cs ∧ cs.size = 3 := by
    unfold Value.okWide at hv
    rw [Tryd.underlying56] at hv
    obtain ⟨cs, h1, h2, _⟩ := hv
    exact ⟨cs, h1, h2.trans (by kernel_rfl)⟩
  obtain ⟨fuel, hf⟩ := h
  obtain ⟨xs, m, _, _, _, hxl, hall⟩ := DataW.trod_array Tryd.underlying56 hf
  obtain ⟨l⟩ := cs
  have hl : l.length = 3 := hsz
  match l, hl with
  | [a0, a1, a2], _ =>
    have g0 := hall 0 (by decide)
    have g1 := hall 1 (by decide)
    have g2 := hall 2 (by decide)
    rw [show Tryd.prog.cellsOf 32 = 1 by kernel_rfl] at g0 g1 g2
    rw [List.getElem?_eq_getElem (by omega)] at g0 g1 g2
    obtain ⟨x0, h0⟩ := rows_trod g0
    obtain ⟨x1, h1⟩ := rows_trod g1
    obtain ⟨x2, h2⟩ := rows_trod g2
    exact ⟨a0, a1, a2, x0, x1, x2, rfl, h0, h1, h2⟩
end Go.Proofs.YtijjggbiljkalaaDoor.Op
end
