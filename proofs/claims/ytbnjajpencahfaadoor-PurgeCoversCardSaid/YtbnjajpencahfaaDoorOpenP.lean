/- An argument that is an array of three purges, opened. No condition. -/
import Derived.Test.YtbnjajpencahfaaDoorOpenI
import Derived.Lib.SmallJoins
namespace Go.Proofs.YtbnjajpencahfaaDoor.Op
open Go.ChangeShapes Go.WideShapes Go.Deep Go.RowKit Pl A1
set_option maxRecDepth 100000
theorem pg_trod {H : Type} {enc : TypeId × Value → H} {w : World} {base n : Nat} {spare : Nat → Bool} {held : Bool} {cs : List Value} {y : DataW H × List MemPlace} (hl : cs.length = 3)
    (h : DataW.trod enc Tryd.prog w base spare held n 23 cs = some y) : ∃ (k t : Int) (l : Bs), cs = [.int .i64 k, .int .i64 t, .string ⟨l.toArray⟩] := by
  obtain ⟨y0, y1, y2, m, _, _, h0, h1, h2⟩ := trod_struct3 Tryd.underlying23 h
  match cs, hl with
  | [a, b, c], _ =>
    obtain ⟨k, e0, _, _⟩ := DataW.trod_int Tryd.underlying3 h0
    obtain ⟨t, e1, _, _⟩ := DataW.trod_int Tryd.underlying3 h1
    obtain ⟨⟨⟨l⟩⟩, e2, _, _⟩ := DataW.trod_string Tryd.underlying9 h2
    have e0' : [a] = [Value.int .i64 k] := e0
    have e1' : [b] = [Value.int .i64 t] := e1
    have e2' : [c] = [Value.string ⟨⟨l⟩⟩] := e2
    cases e0'; cases e1'; cases e2'
    exact ⟨k, t, l, rfl⟩
theorem open_pg3 {H : Type} {enc : TypeId × Value → H} {w : World} {base : Nat} {spare : Nat → Bool} {held : Bool} {v : Value} {d : DataW H} {p : List MemPlace} {r : Reach} {b0 : Nat}
    (hv : Value.okWide Tryd.prog w r b0 39 v) (h : DataW.Trod enc Tryd.prog w base spare held 39 v d p) :
    ∃ (k0 t0 : Int) (v0 : Bs) (k1 t1 : Int) (v1 : Bs) (k2 t2 : Int) (v2 : Bs), v = .agg #[.int .i64 k0, .int .i64 t0, .string ⟨v0.toArray⟩, .int .i64 k1, .int .i64 t1, .string ⟨v1.toArray⟩, .int .i64 k2, .int .i64 t2, .string ⟨v2.toArray⟩] := by
  obtain ⟨cs, rfl, hsz⟩ : ∃ cs, v = .agg cs ∧ cs.size = 9 := by
    unfold Value.okWide at hv
    rw [Tryd.underlying39] at hv
    obtain ⟨cs, h1, h2, _⟩ := hv
    exact ⟨cs, h1, h2.trans (by kernel_rfl)⟩
  obtain ⟨fuel, hf⟩ := h
  obtain ⟨xs, m, _, _, _, hxl, hall⟩ := DataW.trod_array Tryd.underlying39 hf
  obtain ⟨l⟩ := cs
  have hl : l.length = 9 := hsz
  match l, hl with
  | [a0, a1, a2, a3, a4, a5, a6, a7, a8], _ =>
    have g0 := hall 0 (by decide)
    have g1 := hall 1 (by decide)
    have g2 := hall 2 (by decide)
    rw [show Tryd.prog.cellsOf 23 = 3 by kernel_rfl] at g0 g1 g2
    rw [List.getElem?_eq_getElem (by omega)] at g0 g1 g2
    obtain ⟨k0, t0, v0, e0⟩ := pg_trod (by rfl) g0
    obtain ⟨k1, t1, v1, e1⟩ := pg_trod (by rfl) g1
    obtain ⟨k2, t2, v2, e2⟩ := pg_trod (by rfl) g2
    have e0' : [a0, a1, a2] = [Value.int .i64 k0, .int .i64 t0, .string ⟨v0.toArray⟩] := e0
    have e1' : [a3, a4, a5] = [Value.int .i64 k1, .int .i64 t1, .string ⟨v1.toArray⟩] := e1
    have e2' : [a6, a7, a8] = [Value.int .i64 k2, .int .i64 t2, .string ⟨v2.toArray⟩] := e2
    cases e0'; cases e1'; cases e2'
    exact ⟨k0, t0, v0, k1, t1, v1, k2, t2, v2, rfl⟩
end Go.Proofs.YtbnjajpencahfaaDoor.Op
