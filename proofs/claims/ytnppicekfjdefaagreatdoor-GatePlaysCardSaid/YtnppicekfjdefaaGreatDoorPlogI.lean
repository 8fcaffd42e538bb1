/- Contract: the laws' is over the log of purges. Conditions: at most a million purges. -/
import Derived.Test.YtnppicekfjdefaaGreatDoorPlogY
import Derived.Deep.DeepCutAuto
namespace Go.Proofs.YtnppicekfjdefaaGreatDoor
open Go.RowKit Pl Ad
attribute [local go_sem] ba_get ba_append ba_extract_end ba_extract_zero ba_extract
set_option maxRecDepth 100000
set_option maxHeartbeats 8000000
set_option linter.unusedVariables false
set_option linter.unusedSimpArgs false
namespace A1
attribute [local go_sem] guard_pg eql_pg neq_pg
/-- A block that is none of these. -/
structure Off (w : World) (R : Nat) (v u : Value) (g : Nat) : Prop where
  log : R ≠ g
  own : ∀ q, v.ownBlock = some q → ¬ q = g
  ref : ∀ q, u.ownBlock = some q → ¬ q = g
  old : w.heap.size < g
/-- The row that is blanked. -/
def ZRow (w : World) (e : Nat) (a : Option Addr) (n : Nat) : Prop := ∀ g o, a = some ⟨g, o, none⟩ → RowAt w g e (o + n * 3)
theorem ZRow.set {w : World} {e n g o : Nat} (h : ZRow w e (some ⟨g, o, none⟩) n) (i : Nat) (x : Value) : ZRow (w.setCell ⟨g, i, none⟩ x) e (some ⟨g, o, none⟩) n := fun g' o' e' => by
  cases e'
  exact (h g o rfl).set i x
theorem ZRow.of {w : World} {B e n c : Nat} {a : Option Addr} {xs : List Value} (h : OwnWin w B e 3 (.slice a n c) n xs) : ZRow w e a n := fun g o e' => by
  subst e'
  exact (OwnWin.row h).1
theorem since_len (L : LogM) (n : Int) : (L.since n).length ≤ L.all.length := by
  unfold LogM.since
  split
  · simp
  · simp
theorem getC_zero {L : LogM} {n : Int} (h : L.getC n = 0) : 1 ≤ n ∧ n ≤ L.all.length := by
  unfold LogM.getC at h
  split at h
  · cases h
  · omega
theorem getP_at {L : LogM} {m : Nat} (h : L.getC ((m : Int) + 1) = 0) (hm : m < L.all.length) : getP L ((m : Int) + 1) = L.all[m] := by
  unfold getP
  rw [if_pos h, List.getD_eq_getElem?_getD, show ((m : Int) + 1 - 1).toNat = m by omega, List.getElem?_eq_getElem hm]
  rfl
theorem getP_none {L : LogM} {n c : Int} (h : L.getC n = c) (hc : ¬ c = 0) : getP L n = ⟨0, 0, []⟩ := by
  unfold getP
  rw [if_neg (by rw [h]; exact hc)]
end A1
end Go.Proofs.YtnppicekfjdefaaGreatDoor
