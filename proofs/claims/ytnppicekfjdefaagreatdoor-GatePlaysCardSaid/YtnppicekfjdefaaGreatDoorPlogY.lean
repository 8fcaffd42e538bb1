/- Contract: the laws' play over the log of purges. Conditions: at most a million purges in all. A row of cells that is written from end to end (the laws blank what they were handed). No condition. -/
import Derived.Test.YtnppicekfjdefaaGreatDoorPlogF
import Derived.Test.YtnppicekfjdefaaGreatDoorActs
import Derived.Deep.DeepCutAuto
section
namespace Go.Proofs.YtnppicekfjdefaaGreatDoor
open Go.RowKit Pl Ad
attribute [local go_sem] ba_get ba_append ba_extract_end ba_extract_zero ba_extract
set_option maxRecDepth 100000
set_option maxHeartbeats 4000000
set_option linter.unusedVariables false
namespace A1
theorem Goes.trans {w w1 w2 : World} {R : Nat} {v v1 v2 : Value} (h : Goes w w1 R v v1) (k : Goes w1 w2 R v1 v2) : Goes w w2 R v v2 :=
  ⟨h.touch.trans' k.touch fun i hi hs => by
    rcases hs with hs | hs
    · exact .inl hs
    · rcases h.lies i hs with h1 | h1
      · exact .inr h1
      · omega,
   fun q hq => by
    rcases k.lies q hq with h1 | h1
    · exact h.lies q h1
    · exact .inr (Nat.le_trans h.touch.size h1)⟩
theorem Goes.older {w w1 w2 : World} {R : Nat} {v v1 : Value} (h : Goes w w1 R v v1) (hb : Below w1.heap.size w1 w2) : Goes w w2 R v v1 := h.trans (Goes.of_below hb)
theorem play_len (L : LogM) (acts : List LAct) : ∀ k, (L.play (acts.take k)).all.length ≤ L.all.length + k
  | 0 => by simp [LogM.play]
  | k + 1 => by
    have h := play_len L acts k
    by_cases hk : k < acts.length
    · rw [LogM.play_snoc L hk]
      have := LogM.act_len (L.play (acts.take k)) acts[k]
      omega
    · rw [List.take_of_length_le (by omega)]
      rw [List.take_of_length_le (by omega)] at h
      omega
theorem cell_set3 {w : World} {q i g : Nat} {u : Value} (h : w.cell? ⟨q, i, none⟩ = some u) (hn : q ≠ g) (a b c : Value) : (((w.setCell ⟨g, 0, none⟩ a).setCell ⟨g, 1, none⟩ b).setCell ⟨g, 2, none⟩ c).cell? ⟨q, i, none⟩ = some u := (touch_set3 w g a b c).cell h hn
/-- An act's cells, at any world on the way. -/
theorem act_cells {w0 wx : World} {b o k : Nat} {y : LAct} (hb : Below w0.heap.size w0 wx) (hz : b < w0.heap.size) (hc : ∀ j u, (actC y)[j]? = some u → w0.cell? ⟨b, o + (k * 5 + j), none⟩ = some u) :
    wx.cell? ⟨b, o + k * 5, none⟩ = some (.bool y.sh) ∧ wx.cell? ⟨b, o + k * 5 + 1, none⟩ = some (.int .i64 y.n) ∧ wx.cell? ⟨b, o + k * 5 + 2, none⟩ = some (.int .i64 y.p.kind) ∧ wx.cell? ⟨b, o + k * 5 + 3, none⟩ = some (.int .i64 y.p.tenant) ∧ wx.cell? ⟨b, o + k * 5 + 4, none⟩ = some (.string ⟨y.p.value.toArray⟩) := by
  have g : ∀ j u, (actC y)[j]? = some u → wx.cell? ⟨b, o + (k * 5 + j), none⟩ = some u := fun j u hu => by rw [hb.cell (p := ⟨b, _, none⟩) hz]; exact hc j u hu
  exact ⟨g 0 _ rfl, g 1 _ rfl, g 2 _ rfl, g 3 _ rfl, g 4 _ rfl⟩
end A1
end Go.Proofs.YtnppicekfjdefaaGreatDoor
end

section
namespace Go.Proofs.YtnppicekfjdefaaGreatDoor
open Go.RowKit Pl Ad
namespace A1
/-- A block of at least n cells. -/
def RowAt (w : World) (g e n : Nat) : Prop := ∃ cur : Array Value, w.heap[g]? = some (.cells cur e (0, 0)) ∧ n ≤ cur.size
theorem RowAt.cell {w : World} {g e n i : Nat} (h : RowAt w g e n) (hi : i < n) : ∃ x, w.cell? ⟨g, i, none⟩ = some x := by
  obtain ⟨cur, h1, h2⟩ := h
  exact ⟨cur[i]'(by omega), by rw [cell_of_row w g i cur e (0, 0) h1]; exact Array.getElem?_eq_getElem (by omega)⟩
theorem RowAt.frozen {w : World} {g e n : Nat} (h : RowAt w g e n) (i : Nat) : w.frozen? ⟨g, i, none⟩ = false := by
  obtain ⟨cur, h1, _⟩ := h
  exact frozen_of_row w g i cur e h1
theorem RowAt.lt {w : World} {g e n : Nat} (h : RowAt w g e n) : g < w.heap.size := by
  obtain ⟨cur, h1, _⟩ := h
  exact (Array.getElem?_eq_some_iff.1 h1).1
theorem RowAt.set {w : World} {g e n : Nat} (h : RowAt w g e n) (i : Nat) (x : Value) : RowAt (w.setCell ⟨g, i, none⟩ x) g e n := by
  obtain ⟨cur, h1, h2⟩ := h
  unfold RowAt World.setCell
  simp only [Array.getElem?_modify, if_true, h1, Option.map_some]
  exact ⟨_, rfl, by simpa using h2⟩
theorem RowAt.older {w w' : World} {g e n : Nat} (h : RowAt w g e n) (hb : Below w.heap.size w w') : RowAt w' g e n := by
  obtain ⟨cur, h1, h2⟩ := h
  exact ⟨cur, (hb.block g (Array.getElem?_eq_some_iff.1 h1).1).trans h1, h2⟩
/-- A slice of the call's own that has elements is such a row. -/
theorem OwnWin.row {w : World} {B e n size b o c : Nat} {xs : List Value} (h : OwnWin w B e size (.slice (some ⟨b, o, none⟩) n c) n xs) : RowAt w b e (o + n * size) ∧ B ≤ b := by
  rcases h.2 with ⟨h1, _⟩ | ⟨g, o', cap, cur, h1, hb, hg, hc, hm, hs, _⟩
  · cases h1
  · cases h1
    have := Nat.mul_le_mul_right size hc
    exact ⟨⟨cur, hg, by omega⟩, hb⟩
end A1
end Go.Proofs.YtnppicekfjdefaaGreatDoor
end
