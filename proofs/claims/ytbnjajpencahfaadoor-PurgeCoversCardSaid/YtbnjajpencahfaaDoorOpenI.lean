/- An argument that is a slice of strings, opened. No condition. -/
import Derived.Test.YtbnjajpencahfaaDoorStrs
import Derived.Test.YtbnjajpencahfaaDoorOpen
import Derived.SliceStrings
namespace Go.Proofs.YtbnjajpencahfaaDoor.Op
open Go.ChangeShapes Go.WideShapes Go.Deep Go.RowKit Pl A1
theorem strs_trod {H : Type} {enc : TypeId × Value → H} {w : World} {base n : Nat} {spare : Nat → Bool} {held : Bool} {v : Value} {y : DataW H × List MemPlace}
    (h : DataW.trod enc Tryd.prog w base spare held n 24 [v] = some y) : ∃ tags : List Bs, StrsV w v tags ∧ tags.length ≤ 9223372036854775807 := by
  rcases open_strings Tryd.underlying24 Tryd.underlying9 (show Tryd.prog.cellsOf 9 = 1 by kernel_rfl) h with ⟨h1, _⟩ | ⟨a, len, cap, ss, h1, _, hl, hm, hlen, _, hc, _⟩
  · simp only [List.cons.injEq, and_true] at h1
    exact ⟨[], .inl ⟨rfl, .inl h1⟩, by simp⟩
  · simp only [List.cons.injEq, and_true] at h1
    subst h1
    have hle : len ≤ ss.length := by rw [hlen]; split <;> omega
    have hmax : maxLen = 9223372036854775807 := rfl
    rcases Nat.eq_zero_or_pos len with h0 | h0
    · subst h0
      exact ⟨[], .inl ⟨rfl, .inr ⟨a, cap, rfl⟩⟩, by simp⟩
    · obtain ⟨b, o, sp⟩ := a
      have h00 := hc 0 (by omega)
      obtain rfl : sp = none := by simpa [Addr.add] using World.cell?_spot h00
      have hlenT : ((ss.take len).map fun s : ByteArray => s.data.toList).length = len := by simp; omega
      refine ⟨(ss.take len).map fun s : ByteArray => s.data.toList, .inr ⟨b, o, cap, by rw [hlenT], by omega, ?_, fun k x hx => ?_⟩, by omega⟩
      · rw [add_off] at h00
        exact cell_lt h00
      · have hk : k < len := by
          have := (List.getElem?_eq_some_iff.1 hx).1
          omega
        have h1 := hc k (by omega)
        rw [add_off] at h1
        rw [h1]
        simp [List.getElem?_map, hk] at hx
        obtain ⟨s, hs, rfl⟩ := hx
        simp [List.getD, hs]
end Go.Proofs.YtbnjajpencahfaaDoor.Op
