/- Arguments that are questions (an item, an as-of, a window), opened. No condition. -/
import Derived.Test.YtnppicekfjdefaaDoorActs
import Derived.Lib.SmallJoins
namespace Go.Proofs.YtnppicekfjdefaaDoor.Op
open Go.ChangeShapes Go.WideShapes Go.Deep Go.RowKit Pl A1 Ad
set_option maxRecDepth 100000
theorem item_trod {H : Type} {enc : TypeId × Value → H} {w : World} {base n : Nat} {spare : Nat → Bool} {held : Bool} {cs : List Value} {y : DataW H × List MemPlace} (hl : cs.length = 3)
    (h : DataW.trod enc Tryd.prog w base spare held n 26 cs = some y) : ∃ (t : Int) (a : Bs) (u : Value) (tags : List Bs), cs = [.int .i64 t, .string ⟨a.toArray⟩, u] ∧ StrsV w u tags ∧ tags.length ≤ 9223372036854775807 := by
  obtain ⟨y0, y1, y2, m, _, _, h0, h1, h2⟩ := trod_struct3 Tryd.underlying26 h
  match cs, hl with
  | [a, b, c], _ =>
    obtain ⟨k, e0, _, _⟩ := DataW.trod_int Tryd.underlying3 h0
    obtain ⟨⟨⟨l⟩⟩, e1, _, _⟩ := DataW.trod_string Tryd.underlying9 h1
    have h2' : DataW.trod enc Tryd.prog w base spare held m 24 [c] = some y2 := h2
    obtain ⟨tags, ht, htl⟩ := strs_trod h2'
    have e0' : [a] = [Value.int .i64 k] := e0
    have e1' : [b] = [Value.string ⟨⟨l⟩⟩] := e1
    cases e0'; cases e1'
    exact ⟨k, l, c, tags, rfl, ht, htl⟩
theorem open_q38 {H : Type} {enc : TypeId × Value → H} {w : World} {base : Nat} {spare : Nat → Bool} {held : Bool} {v : Value} {d : DataW H} {p : List MemPlace} {r : Reach} {b0 : Nat}
    (hv : Value.okWide Tryd.prog w r b0 28 v) (h : DataW.Trod enc Tryd.prog w base spare held 28 v d p) :
    ∃ (xt : Int) (xa : Bs) (tags : List Bs) (u : Value) (n m : Int), v = .agg #[.int .i64 xt, .string ⟨xa.toArray⟩, u, .int .i64 n, .int .u8 m] ∧ StrsV w u tags ∧ tags.length ≤ 9223372036854775807 ∧ 0 ≤ m ∧ m < 256 := by
  obtain ⟨cs, rfl, hsz⟩ : ∃ cs, v = .agg cs ∧ cs.size = 5 := by
    unfold Value.okWide at hv
    rw [Tryd.underlying28] at hv
    obtain ⟨cs, h1, h2, _⟩ := hv
    exact ⟨cs, h1, h2.trans (by kernel_rfl)⟩
  obtain ⟨fuel, hf⟩ := h
  obtain ⟨y0, y1, y2, m, _, _, h0, h1, h2⟩ := trod_struct3 Tryd.underlying28 hf
  obtain ⟨l⟩ := cs
  have hl : l.length = 5 := hsz
  match l, hl with
  | [a, b, c, d, e], _ =>
    have h0' : DataW.trod enc Tryd.prog w base spare held m 26 [a, b, c] = some y0 := h0
    obtain ⟨t, la, u, tags, e0, hu, hul⟩ := item_trod rfl h0'
    obtain ⟨n, e1, _, _⟩ := DataW.trod_int Tryd.underlying3 h1
    obtain ⟨k, e2, _, wf⟩ := DataW.trod_int Tryd.underlying5 h2
    have e1' : [d] = [Value.int .i64 n] := e1
    have e2' : [e] = [Value.int .u8 k] := e2
    cases e0; cases e1'; cases e2'
    have hk := u8_range wf
    exact ⟨t, la, tags, _, n, k, rfl, hu, hul, hk.1, hk.2⟩
end Go.Proofs.YtnppicekfjdefaaDoor.Op
