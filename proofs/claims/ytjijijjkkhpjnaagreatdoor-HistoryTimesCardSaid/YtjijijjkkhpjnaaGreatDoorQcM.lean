/- Contracts and plain facts that the statement's proof leans on (texts joined). No condition beyond those that each names. -/
import Derived.Test.YtjijijjkkhpjnaaGreatDoorQcG
section
namespace Go.Proofs.YtjijijjkkhpjnaaGreatDoor
open Go.RowKit Pl
set_option maxRecDepth 100000
set_option maxHeartbeats 1000000
set_option linter.unusedVariables false
namespace Hy
open Go.ChangeShapes Go.WideShapes Go.Deep A1
theorem short_trod4 {H : Type} {enc : TypeId × Value → H} {w : World} {base n : Nat} {spare : Nat → Bool} {held : Bool} {c : Value} {y : DataW H × List MemPlace}
    (h : DataW.trod enc Tryz.prog w base spare held n 93 [c] = some y) : ∃ b : Nat, c = .int .u16 (b : Int) ∧ b < 65536 := by
  obtain ⟨d, p⟩ := y
  obtain ⟨k, e, _, hw⟩ := DataW.trod_int Tryz.underlying93 h
  have e1 : IntKind.min .u16 = 0 := rfl
  have e2 : IntKind.max .u16 = 65535 := rfl
  simp only [Lit.wf, Bool.and_eq_true, decide_eq_true_eq, e1, e2] at hw
  refine ⟨k.toNat, ?_, by omega⟩
  rw [(List.cons.inj e).1, Int.toNat_of_nonneg (by omega)]
theorem open_quad {H : Type} {enc : TypeId × Value → H} {w : World} {base n : Nat} {spare : Nat → Bool} {held : Bool} {c0 c1 c2 c3 : Value} {x : DataW H × List MemPlace}
    (h : DataW.trod enc Tryz.prog w base spare held n 94 [c0, c1, c2, c3] = some x) : ∃ a b c d : Nat, c0 = .int .u16 (a : Int) ∧ c1 = .int .u16 (b : Int) ∧ c2 = .int .u16 (c : Int) ∧ c3 = .int .u16 (d : Int) ∧ (a < 65536 ∧ b < 65536 ∧ c < 65536 ∧ d < 65536) := by
  match n, h with
  | k + 1, h =>
    unfold DataW.trod at h
    rw [Tryz.underlying94] at h
    have r2 : List.range 4 = [0, 1, 2, 3] := rfl
    have hce : Tryz.prog.cellsOf 93 = 1 := by kernel_rfl
    simp [r2, hce] at h
    obtain ⟨_, h⟩ := h
    match h0 : DataW.trod enc Tryz.prog w base spare held k 93 [c0], h1 : DataW.trod enc Tryz.prog w base spare held k 93 [c1], h2 : DataW.trod enc Tryz.prog w base spare held k 93 [c2], h3 : DataW.trod enc Tryz.prog w base spare held k 93 [c3] with
    | none, _, _, _ => simp [h0] at h
    | some y0, none, _, _ => simp [h0, h1] at h
    | some y0, some y1, none, _ => simp [h0, h1, h2] at h
    | some y0, some y1, some y2, none => simp [h0, h1, h2, h3] at h
    | some y0, some y1, some y2, some y3 =>
      obtain ⟨a, ha, la⟩ := short_trod4 h0
      obtain ⟨b, hb, lb⟩ := short_trod4 h1
      obtain ⟨c, hc, lc⟩ := short_trod4 h2
      obtain ⟨d, hd, ld⟩ := short_trod4 h3
      exact ⟨a, b, c, d, ha, hb, hc, hd, la, lb, lc, ld⟩
theorem open_quad_arg {H : Type} {enc : TypeId × Value → H} {w : World} {base : Nat} {spare : Nat → Bool} {held : Bool} {v : Value} {d : DataW H} {p : List MemPlace} {r : Reach} {b0 : Nat}
    (hv : Value.okWide Tryz.prog w r b0 94 v) (h : DataW.Trod enc Tryz.prog w base spare held 94 v d p) : ∃ a b c e : Nat, v = .agg #[.int .u16 (a : Int), .int .u16 (b : Int), .int .u16 (c : Int), .int .u16 (e : Int)] ∧ (a < 65536 ∧ b < 65536 ∧ c < 65536 ∧ e < 65536) := by
  simp only [Value.okWide, Tryz.underlying94] at hv
  obtain ⟨cs, rfl, h2, _⟩ := hv
  obtain ⟨c0, c1, c2, c3, rfl⟩ : ∃ c0 c1 c2 c3, cs = #[c0, c1, c2, c3] := by
    obtain ⟨l⟩ := cs
    have h3 : l.length = 4 := (show l.length = _ from by simpa using h2).trans (show Tryz.prog.cellsOf 94 = 4 by kernel_rfl)
    match l, h3 with
    | [x, y, z, t], _ => exact ⟨x, y, z, t, rfl⟩
  obtain ⟨fuel, hf⟩ := h
  obtain ⟨a, b, c, e, e0, e1, e2, e3, l⟩ := open_quad (by simpa [Value.cells] using hf)
  exact ⟨a, b, c, e, by rw [e0, e1, e2, e3], l⟩
end Hy
end Go.Proofs.YtjijijjkkhpjnaaGreatDoor
end

