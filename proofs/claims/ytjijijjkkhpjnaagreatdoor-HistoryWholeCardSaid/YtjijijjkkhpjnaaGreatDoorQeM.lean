/- Contracts and plain facts that the statement's proof leans on (texts joined). No condition beyond those that each names. -/
import Derived.Test.YtjijijjkkhpjnaaGreatDoorQeG
section
namespace Go.Proofs.YtjijijjkkhpjnaaGreatDoor
open Go.RowKit Pl
set_option maxRecDepth 100000
set_option maxHeartbeats 1000000
set_option linter.unusedVariables false
namespace Hy
open Go.ChangeShapes Go.WideShapes Go.Deep A1
theorem byte_trod2 {H : Type} {enc : TypeId × Value → H} {w : World} {base n : Nat} {spare : Nat → Bool} {held : Bool} {c : Value} {y : DataW H × List MemPlace}
    (h : DataW.trod enc Tryz.prog w base spare held n 5 [c] = some y) : ∃ b : Nat, c = .int .u8 (b : Int) ∧ b < 256 := by
  obtain ⟨d, p⟩ := y
  obtain ⟨k, e, _, hw⟩ := DataW.trod_int Tryz.underlying5 h
  have e1 : IntKind.min .u8 = 0 := rfl
  have e2 : IntKind.max .u8 = 255 := rfl
  simp only [Lit.wf, Bool.and_eq_true, decide_eq_true_eq, e1, e2] at hw
  refine ⟨k.toNat, ?_, by omega⟩
  rw [(List.cons.inj e).1, Int.toNat_of_nonneg (by omega)]
theorem open_duo {H : Type} {enc : TypeId × Value → H} {w : World} {base n : Nat} {spare : Nat → Bool} {held : Bool} {c0 c1 : Value} {x : DataW H × List MemPlace}
    (h : DataW.trod enc Tryz.prog w base spare held n 48 [c0, c1] = some x) : ∃ a b : Nat, c0 = .int .u8 (a : Int) ∧ c1 = .int .u8 (b : Int) ∧ (a < 256 ∧ b < 256) := by
  match n, h with
  | k + 1, h =>
    unfold DataW.trod at h
    rw [Tryz.underlying48] at h
    have r2 : List.range 2 = [0, 1] := rfl
    have hce : Tryz.prog.cellsOf 5 = 1 := by kernel_rfl
    simp [r2, hce] at h
    obtain ⟨_, h⟩ := h
    match h0 : DataW.trod enc Tryz.prog w base spare held k 5 [c0], h1 : DataW.trod enc Tryz.prog w base spare held k 5 [c1] with
    | none, _ => simp [h0] at h
    | some y0, none => simp [h0, h1] at h
    | some y0, some y1 =>
      obtain ⟨a, ha, la⟩ := byte_trod2 h0
      obtain ⟨b, hb, lb⟩ := byte_trod2 h1
      exact ⟨a, b, ha, hb, la, lb⟩
theorem open_duo_arg {H : Type} {enc : TypeId × Value → H} {w : World} {base : Nat} {spare : Nat → Bool} {held : Bool} {v : Value} {d : DataW H} {p : List MemPlace} {r : Reach} {b0 : Nat}
    (hv : Value.okWide Tryz.prog w r b0 48 v) (h : DataW.Trod enc Tryz.prog w base spare held 48 v d p) : ∃ a b : Nat, v = .agg #[.int .u8 (a : Int), .int .u8 (b : Int)] ∧ (a < 256 ∧ b < 256) := by
  simp only [Value.okWide, Tryz.underlying48] at hv
  obtain ⟨cs, rfl, h2, _⟩ := hv
  obtain ⟨c0, c1, rfl⟩ : ∃ c0 c1, cs = #[c0, c1] := by
    obtain ⟨l⟩ := cs
    have h3 : l.length = 2 := (show l.length = _ from by simpa using h2).trans (show Tryz.prog.cellsOf 48 = 2 by kernel_rfl)
    match l, h3 with
    | [x, y], _ => exact ⟨x, y, rfl⟩
  obtain ⟨fuel, hf⟩ := h
  obtain ⟨a, b, e0, e1, l⟩ := open_duo (by simpa [Value.cells] using hf)
  exact ⟨a, b, by rw [e0, e1], l⟩
end Hy
end Go.Proofs.YtjijijjkkhpjnaaGreatDoor
end

