/- Contract: the gate's Missing. Conditions: the gate's own bounds. -/
import Derived.Test.YtnppicekfjdefaaDoorGateB
import Derived.WalkKit
namespace Go.Proofs.YtnppicekfjdefaaDoor
open Go.RowKit Pl Ad Go.Maps
attribute [local go_sem] ba_get ba_append ba_extract_end ba_extract_zero ba_extract
set_option maxRecDepth 100000
set_option maxHeartbeats 4000000
set_option linter.unusedVariables false
set_option linter.unusedSimpArgs false
namespace A1
/-- What Missing's second result is while the keys are gone through: left tells what is still to come. -/
def MissI (ap : Int) (l : List (Int × Pg)) (left : Lit → Bool) (tt : Int) : Prop :=
  ((∀ e ∈ l, left (.int .i64 e.1) = true) ∧ tt = ap) ∨ ∃ e ∈ l, left (.int .i64 e.1) = false ∧ tt = e.1 - 1 ∧ ∀ x ∈ l, left (.int .i64 x.1) = false → e.1 ≤ x.1
theorem missI_start (ap : Int) (l : List (Int × Pg)) : MissI ap l (Maps.has (mapD l)) ap := .inl ⟨fun e he => by rw [mapD_has]; simp only [GateM.hasK, List.any_eq_true]; exact ⟨e, he, by simp⟩, rfl⟩
theorem left_same {left : Lit → Bool} {k x : Int} : (left (.int .i64 x) && !(Lit.int .i64 x).sameKey (.int .i64 k)) = false ↔ left (.int .i64 x) = false ∨ x = k := by
  rw [same_i]
  cases left (.int .i64 x) <;> simp
theorem missI_more {ap tt k : Int} {l : List (Int × Pg)} {left : Lit → Bool} (h : MissI ap l left tt) (hm : ∃ e ∈ l, e.1 = k) (hfar : ∀ e ∈ l, ap + 1 < e.1) :
    MissI ap l (fun z => left z && !z.sameKey (.int .i64 k)) (if tt = ap ∨ k - 1 < tt then k - 1 else tt) := by
  obtain ⟨ek, hek, rfl⟩ := hm
  right
  rcases h with ⟨h1, rfl⟩ | ⟨e, he, h1, rfl, h2⟩
  · refine ⟨ek, hek, left_same.2 (.inr rfl), by rw [if_pos (.inl rfl)], fun x hx hl => ?_⟩
    rcases left_same.1 hl with h3 | h3
    · rw [h1 x hx] at h3; cases h3
    · omega
  · have := hfar e he
    by_cases hlt : ek.1 - 1 < e.1 - 1
    · refine ⟨ek, hek, left_same.2 (.inr rfl), by rw [if_pos (.inr hlt)], fun x hx hl => ?_⟩
      rcases left_same.1 hl with h3 | h3
      · have := h2 x hx h3; omega
      · omega
    · refine ⟨e, he, left_same.2 (.inl h1), by rw [if_neg (by omega)], fun x hx hl => ?_⟩
      rcases left_same.1 hl with h3 | h3
      · exact h2 x hx h3
      · omega
theorem missI_end {tt : Int} {g : GateM} {left : Lit → Bool} (h : MissI g.applied g.aside left tt) (hl : ∀ kl, left kl = false) (ha : GateM.Asc g.aside) : tt = g.missTo := by
  unfold GateM.missTo
  rcases h with ⟨h1, rfl⟩ | ⟨e, he, h1, rfl, h2⟩
  · cases hg : g.aside with
    | nil => rfl
    | cons x r => rw [hg] at h1; have := h1 x (by simp); rw [hl] at this; cases this
  · cases hg : g.aside with
    | nil => rw [hg] at he; cases he
    | cons x r =>
      rw [hg] at he h2 ha
      have h3 := h2 x (by simp) (hl _)
      rcases List.mem_cons.1 he with rfl | he
      · rfl
      · have := (List.pairwise_cons.1 ha).1 e he
        simp only; omega
theorem key_in {l : List (Int × Pg)} {x : Int} {y : DataW Unit} (h : ∀ zd, (mapD l).atKey (.int .i64 x) zd = y) : ∃ e ∈ l, e.1 = x := by
  have hh := Maps.has_true_of_atKey h
  rw [mapD_has] at hh
  simp only [GateM.hasK, List.any_eq_true, beq_iff_eq] at hh
  exact hh
theorem below_grownNone {w w' : World} (h : w.grownBy w' none) : Below w.heap.size w w' := ⟨h.os, h.tape, h.output, h.size, fun k hk => h.block k hk (by simp)⟩
end A1
end Go.Proofs.YtnppicekfjdefaaDoor
