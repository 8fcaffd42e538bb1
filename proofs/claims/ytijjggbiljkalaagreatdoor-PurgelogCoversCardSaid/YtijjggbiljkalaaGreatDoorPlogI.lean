/- Contract: the laws' is over the log of purges. Conditions: at most a million purges. -/
import Derived.Test.YtijjggbiljkalaaGreatDoorPlogY
import Derived.Deep.DeepCutAuto
namespace Go.Proofs.YtijjggbiljkalaaGreatDoor
open Go.RowKit Pl Ad
attribute [local go_sem] ba_get ba_append ba_extract_end ba_extract_zero ba_extract
set_option maxRecDepth 100000
set_option maxHeartbeats 8000000
set_option linter.unusedVariables false
set_option linter.unusedSimpArgs false
namespace A1
attribute [local go_sem] guard_pg eql_pg neq_pg
/-- A round's state. -/
structure IsS (w wr : World) (R : Nat) (v u : Value) (L : LogM) : Prop where
  bel : Below w.heap.size w wr
  log : LogAt wr 0 R v L
  ref : RefOwn wr 0 u L
  box : Box3 wr w.heap.size 39 u (.int .i64 L.dropped) (.int .i64 L.win)
theorem IsS.older {w w1 w2 : World} {R : Nat} {v u : Value} {L : LogM} (h : IsS w w1 R v u L) (hb : Below w1.heap.size w1 w2) : IsS w w2 R v u L := ⟨h.bel.trans (hb.mono h.bel.size), h.log.below hb, h.ref.older hb, h.box.older hb⟩

/-- A block that is none of these. -/
structure Off (w : World) (R : Nat) (v u : Value) (g : Nat) : Prop where
  log : R ≠ g
  own : ∀ q, v.ownBlock = some q → ¬ q = g
  ref : ∀ q, u.ownBlock = some q → ¬ q = g
  old : w.heap.size < g
theorem IsS.off {w wx : World} {R g : Nat} {v u : Value} {L : LogM} (h : IsS w wx R v u L) (hg : wx.heap.size ≤ g) : Off w R v u g := by
  have h1 := h.log.box.facts.2.2
  have h2 := h.box.facts.2.2
  exact ⟨by omega, fun q hq => by have := (h.log.own.lt q hq).2; omega, fun q hq => by have := (OwnWin.lt h.ref q hq).2; omega, by omega⟩
theorem IsS.set {w wr : World} {R g : Nat} {v u : Value} {L : LogM} (h : IsS w wr R v u L) (ho : Off w R v u g) (i : Nat) (x : Value) : IsS w (wr.setCell ⟨g, i, none⟩ x) R v u L := by
  have ht := touch_set1 wr g i x
  exact ⟨h.bel.setCell (p := ⟨g, i, none⟩) (Nat.le_of_lt ho.old) x, ⟨h.log.hR, box3_touch h.log.box ht ho.log, h.log.own.touch ht ho.own⟩, OwnWin.touch h.ref ht ho.ref, box3_touch h.box ht (by have := ho.old; omega)⟩
/-- The row that is blanked. -/
def ZRow (w : World) (e : Nat) (a : Option Addr) (n : Nat) : Prop := ∀ g o, a = some ⟨g, o, none⟩ → RowAt w g e (o + n * 3)
theorem ZRow.set {w : World} {e n g o : Nat} (h : ZRow w e (some ⟨g, o, none⟩) n) (i : Nat) (x : Value) : ZRow (w.setCell ⟨g, i, none⟩ x) e (some ⟨g, o, none⟩) n := fun g' o' e' => by
  cases e'
  exact (h g o rfl).set i x
theorem ZRow.of {w : World} {B e n c : Nat} {a : Option Addr} {xs : List Value} (h : OwnWin w B e 3 (.slice a n c) n xs) : ZRow w e a n := fun g o e' => by
  subst e'
  exact (OwnWin.row h).1
theorem since_len (L : LogM) (n : Int) : (L.since n).length ≤ L.all.length := by
  unfold LogM.since
  split
  · simp
  · simp
theorem getC_zero {L : LogM} {n : Int} (h : L.getC n = 0) : 1 ≤ n ∧ n ≤ L.all.length := by
  unfold LogM.getC at h
  split at h
  · cases h
  · omega
theorem getP_at {L : LogM} {m : Nat} (h : L.getC ((m : Int) + 1) = 0) (hm : m < L.all.length) : getP L ((m : Int) + 1) = L.all[m] := by
  unfold getP
  rw [if_pos h, List.getD_eq_getElem?_getD, show ((m : Int) + 1 - 1).toNat = m by omega, List.getElem?_eq_getElem hm]
  rfl
theorem getP_none {L : LogM} {n c : Int} (h : L.getC n = c) (hc : ¬ c = 0) : getP L n = ⟨0, 0, []⟩ := by
  unfold getP
  rw [if_neg (by rw [h]; exact hc)]
end A1
end Go.Proofs.YtijjggbiljkalaaGreatDoor
