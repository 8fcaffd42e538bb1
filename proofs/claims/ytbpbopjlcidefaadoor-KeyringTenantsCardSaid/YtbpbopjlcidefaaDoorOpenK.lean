/- The acts of the laws over the keyring, opened. No condition. -/
import Derived.Test.YtbpbopjlcidefaaDoorRowV
import Derived.Test.YtbpbopjlcidefaaDoorFrameK
namespace Go.Proofs.YtbpbopjlcidefaaDoor
open Go.ChangeShapes Go.WideShapes Go.Deep Go.RowKit Pl A1 Ad
set_option maxRecDepth 100000
namespace Ad
/-- An act of the keyring's laws. -/
structure KAct where
  kd : Nat
  tn : Nat
  s : Nat
  id : Bs
  x : Int
  y : Int
  z : Int
  at_ : Int
def actK (a : KAct) : List Value := [.int .u8 (a.kd : Int), .int .u8 (a.tn : Int), .int .u8 (a.s : Int), .string ⟨a.id.toArray⟩, .int .i64 a.x, .int .i64 a.y, .int .i64 a.z, .int .i64 a.at_]
def KAct.ok (a : KAct) : Prop := a.kd < 256 ∧ a.tn < 256 ∧ a.s < 256
end Ad
namespace A1
/-- An element's cells. -/
theorem RowsV.rowAt {α : Type} {R : α → List Value} {k : Nat} {w : World} {a : Option Addr} {n c : Nat} {xs : List α} (h : RowsV R k w (.slice a n c) xs) {i : Nat} {x : α} (hx : xs[i]? = some x) :
    ∃ b o, a = some ⟨b, o, none⟩ ∧ xs.length ≤ c ∧ b < w.heap.size ∧ ∀ j u, (R x)[j]? = some u → w.cell? ⟨b, o + i * k + j, none⟩ = some u := by
  rcases h with ⟨rfl, _⟩ | ⟨b, o, c', h1, h2, h3, h4⟩
  · simp at hx
  · cases h1
    exact ⟨b, o, rfl, h2, h3, fun j u hu => by rw [Nat.add_assoc]; exact h4 i x hx j u hu⟩
end A1
namespace Op
theorem actK_trod {H : Type} {enc : TypeId × Value → H} {w : World} {base n : Nat} {spare : Nat → Bool} {held : Bool} {cs : List Value} {y : DataW H × List MemPlace} (hl : cs.length = 8)
    (h : DataW.trod enc Tryd.prog w base spare held n 46 cs = some y) : ∃ x : KAct, cs = actK x ∧ x.ok := by
  obtain ⟨xs, m, _, _, _, hlen, hf⟩ := DataW.trod_struct Tryd.underlying46 h
  match cs, hl with
  | [c0, c1, c2, c3, c4, c5, c6, c7], _ =>
    have hl8 : xs.length = 8 := hlen
    have g0 := hf 0 _ rfl
    have g1 := hf 1 _ rfl
    have g2 := hf 2 _ rfl
    have g3 := hf 3 _ rfl
    have g4 := hf 4 _ rfl
    have g5 := hf 5 _ rfl
    have g6 := hf 6 _ rfl
    have g7 := hf 7 _ rfl
    rw [List.getElem?_eq_getElem (by omega)] at g0 g1 g2 g3 g4 g5 g6 g7
    obtain ⟨k0, e0, _, w0⟩ := DataW.trod_int Tryd.underlying5 g0
    obtain ⟨k1, e1, _, w1⟩ := DataW.trod_int Tryd.underlying5 g1
    obtain ⟨k2, e2, _, w2⟩ := DataW.trod_int Tryd.underlying5 g2
    obtain ⟨⟨⟨l⟩⟩, e3, _, _⟩ := DataW.trod_string Tryd.underlying9 g3
    obtain ⟨k4, e4, _, _⟩ := DataW.trod_int Tryd.underlying3 g4
    obtain ⟨k5, e5, _, _⟩ := DataW.trod_int Tryd.underlying3 g5
    obtain ⟨k6, e6, _, _⟩ := DataW.trod_int Tryd.underlying3 g6
    obtain ⟨k7, e7, _, _⟩ := DataW.trod_int Tryd.underlying3 g7
    have e0' : [c0] = [Value.int .u8 k0] := e0
    have e1' : [c1] = [Value.int .u8 k1] := e1
    have e2' : [c2] = [Value.int .u8 k2] := e2
    have e3' : [c3] = [Value.string ⟨⟨l⟩⟩] := e3
    have e4' : [c4] = [Value.int .i64 k4] := e4
    have e5' : [c5] = [Value.int .i64 k5] := e5
    have e6' : [c6] = [Value.int .i64 k6] := e6
    have e7' : [c7] = [Value.int .i64 k7] := e7
    cases e0'; cases e1'; cases e2'; cases e3'; cases e4'; cases e5'; cases e6'; cases e7'
    have r0 := Fr.u8_range w0
    have r1 := Fr.u8_range w1
    have r2 := Fr.u8_range w2
    refine ⟨⟨k0.toNat, k1.toNat, k2.toNat, l, k4, k5, k6, k7⟩, ?_, by simp only; omega, by simp only; omega, by simp only; omega⟩
    unfold actK
    simp only
    rw [Int.toNat_of_nonneg r0.1, Int.toNat_of_nonneg r1.1, Int.toNat_of_nonneg r2.1]
theorem actsK_trod {H : Type} {enc : TypeId × Value → H} {w : World} {base n : Nat} {spare : Nat → Bool} {held : Bool} {v : Value} {y : DataW H × List MemPlace}
    (h : DataW.trod enc Tryd.prog w base spare held n 43 [v] = some y) : ∃ xs : List KAct, RowsV actK 8 w v xs ∧ xs.length ≤ 9223372036854775807 ∧ ∀ a ∈ xs, a.ok :=
  open_rows (R := actK) (k := 8) (fun a => a.ok) Tryd.underlying43 (by kernel_rfl) (by decide) (fun n cs y hl h => actK_trod hl h) h
end Op
end Go.Proofs.YtbpbopjlcidefaaDoor
