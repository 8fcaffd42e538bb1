/- Arguments opened to cells: slices of structs with fields of one cell; lists out of facts for every index. No condition. An argument that is a slice of strings, opened. No condition. An argument that is an array of three purges, opened. No condition. -/
import Derived.Deep.Slices
import Derived.Deep.Fields
import Derived.ChangeSame
import Derived.Lib.SmallJoins
import Derived.Below
import Derived.Test.YtbpbopjlcidefaaDoorSlib
import Derived.SliceStrings
section
namespace Go.Proofs.YtbpbopjlcidefaaDoor.Op
open Go.ChangeShapes Go.WideShapes Go.Deep

theorem list_of {α : Type} {R : Nat → α → Prop} : ∀ (n : Nat), (∀ i, i < n → ∃ x, R i x) → ∃ l : List α, l.length = n ∧ ∀ (i : Nat) (h : i < l.length), R i l[i]
  | 0, _ => ⟨[], rfl, fun i h => absurd h (Nat.not_lt_zero _)⟩
  | n + 1, h => by
    obtain ⟨l, hl, hR⟩ := list_of n fun i hi => h i (by omega)
    obtain ⟨x, hx⟩ := h n (by omega)
    refine ⟨l ++ [x], by simp [hl], fun i hi => ?_⟩
    by_cases hn : i < l.length
    · rw [List.getElem_append_left hn]; exact hR i hn
    · have e : i = n := by simp at hi; omega
      subst e
      rw [List.getElem_append_right (by omega)]
      simpa using hx

theorem cell_lt {w : World} {b o : Nat} {v : Value} (h : w.cell? ⟨b, o, none⟩ = some v) : b < w.heap.size := by
  unfold World.cell? at h
  split at h
  · rename_i h3; exact (Array.getElem?_eq_some_iff.1 h3).1
  · cases h

section
variable {H : Type} {enc : TypeId × Value → H} {P : Program} {w : World} {base : Nat} {spare : Nat → Bool} {held : Bool}
theorem open_slice_fields {t e : TypeId} {fs : Array Field} {fuel : Nat} {cs : List Value} {x : DataW H × List MemPlace} (ht : P.underlying t = some (.slice e)) (he : P.underlying e = some (.struct fs))
    (hone : oneCellFields P fs = true) (hC : P.cellsOf e = fs.size) (h : DataW.trod enc P w base spare held fuel t cs = some x) :
    (cs = [.slice none 0 0] ∧ x = (.nil, [])) ∨
    ∃ (a : Addr) (len cap m : Nat) (D : Nat → DataW H) (Pl : Nat → List MemPlace), cs = [.slice (some a) len cap] ∧ base ≤ a.block ∧ len ≤ cap ∧ cap ≤ maxLen ∧ m = (if spare a.block then cap else len) ∧
      x = (.slice ((List.range len).map D) ((List.range (m - len)).map fun j => D (len + j)), MemPlace.row a (m * fs.size) ++ (List.range m).flatMap Pl) ∧
      ∀ i, i < m → ∃ (ys : List (DataW H × List MemPlace)) (n : Nat), D i = .agg (ys.map (·.1)) ∧ Pl i = ys.flatMap (·.2) ∧ ys.length = fs.size ∧
        ∀ (j : Nat) (f : Field), fs[j]? = some f → ∃ (v : Value) (y : DataW H × List MemPlace), w.cell? (a.add (i * fs.size + j)) = some v ∧ ys[j]? = some y ∧ DataW.trod enc P w base spare held n f.type [v] = some y := by
  rcases open_slice ht h with h0 | ⟨a, len, cap, m, n, D, Pl, hcs, hb, hl, hm, hmm, hx, hi⟩
  · exact .inl h0
  · refine .inr ⟨a, len, cap, m, D, Pl, hcs, hb, hl, hm, hmm, by rw [hC] at hx; exact hx, fun i him => ?_⟩
    obtain ⟨cs', hc, ht'⟩ := hi i him
    rw [hC] at hc
    obtain ⟨ys, n', hn', hy, hlen, hyl, hf⟩ := DataW.trod_struct he ht'
    obtain ⟨_, hcl, hat⟩ := World.cells?_some hc
    simp only [Prod.mk.injEq] at hy
    refine ⟨ys, n', hy.1, hy.2, hyl, fun j f hj => ?_⟩
    obtain ⟨ho, hk⟩ := hone_of hone j f hj
    have hjl : j < fs.size := (Array.getElem?_eq_some_iff.1 hj).1
    have hcell := hat j hjl
    have hv : cs'[j]? = some (cs'[j]'(by omega)) := List.getElem?_eq_getElem (by omega)
    have h1 := hf j f hj
    rw [ho, hk] at h1
    have hone' : (cs'.drop j).take 1 = [cs'[j]'(by omega)] := by
      rw [List.drop_eq_getElem_cons (by omega)]
      rfl
    rw [hone'] at h1
    have hys : ys[j]? = some (ys[j]'(by omega)) := List.getElem?_eq_getElem (by omega)
    refine ⟨_, _, ?_, hys, h1.trans hys⟩
    rw [← Go.Deep.add_add, hcell, hv]
end

theorem sized_pg {H : Type} {P : Program} {ts : List TypeId} {ds : List (DataW H)} (h : (DataW.weightsEach P ts ds).all (· ≤ reachBytes) = true) {j : Nat} {t : TypeId} {a b : Int} {l : List UInt8} {f0 f1 f2 : Field} (ht : ts[j]? = some t)
    (hd : ds[j]? = some (.agg [.lit (.int .i64 a), .lit (.int .i64 b), .lit (.string l)])) (hu : P.underlying t = some (.struct #[f0, f1, f2])) : l.length ≤ reachBytes := by
  have k := fun n hn => List.all_eq_true.1 h _ (DataW.weights_mem_each ht hd n hn)
  simpa using k l.length (by simp [DataW.weights, DataW.weightsEach, hu])

theorem add_off {b o k : Nat} : (⟨b, o, none⟩ : Addr).add k = ⟨b, o + k, none⟩ := by unfold Addr.add; split <;> simp_all
end Go.Proofs.YtbpbopjlcidefaaDoor.Op
end

section
namespace Go.Proofs.YtbpbopjlcidefaaDoor.Op
open Go.ChangeShapes Go.WideShapes Go.Deep Go.RowKit Pl A1
theorem strs_trod {H : Type} {enc : TypeId × Value → H} {w : World} {base n : Nat} {spare : Nat → Bool} {held : Bool} {v : Value} {y : DataW H × List MemPlace}
    (h : DataW.trod enc Tryd.prog w base spare held n 40 [v] = some y) : ∃ tags : List Bs, StrsV w v tags ∧ tags.length ≤ 9223372036854775807 := by
  rcases open_strings Tryd.underlying40 Tryd.underlying9 (show Tryd.prog.cellsOf 9 = 1 by kernel_rfl) h with ⟨h1, _⟩ | ⟨a, len, cap, ss, h1, _, hl, hm, hlen, _, hc, _⟩
  · simp only [List.cons.injEq, and_true] at h1
    exact ⟨[], .inl ⟨rfl, .inl h1⟩, by simp⟩
  · simp only [List.cons.injEq, and_true] at h1
    subst h1
    have hle : len ≤ ss.length := by rw [hlen]; split <;> omega
    have hmax : maxLen = 9223372036854775807 := rfl
    rcases Nat.eq_zero_or_pos len with h0 | h0
    · subst h0
      exact ⟨[], .inl ⟨rfl, .inr ⟨a, cap, rfl⟩⟩, by simp⟩
    · obtain ⟨b, o, sp⟩ := a
      have h00 := hc 0 (by omega)
      obtain rfl : sp = none := by simpa [Addr.add] using World.cell?_spot h00
      have hlenT : ((ss.take len).map fun s : ByteArray => s.data.toList).length = len := by simp; omega
      refine ⟨(ss.take len).map fun s : ByteArray => s.data.toList, .inr ⟨b, o, cap, by rw [hlenT], by omega, ?_, fun k x hx => ?_⟩, by omega⟩
      · rw [add_off] at h00
        exact cell_lt h00
      · have hk : k < len := by
          have := (List.getElem?_eq_some_iff.1 hx).1
          omega
        have h1 := hc k (by omega)
        rw [add_off] at h1
        rw [h1]
        simp [List.getElem?_map, hk] at hx
        obtain ⟨s, hs, rfl⟩ := hx
        simp [List.getD, hs]
end Go.Proofs.YtbpbopjlcidefaaDoor.Op
end

section
namespace Go.Proofs.YtbpbopjlcidefaaDoor.Op
open Go.ChangeShapes Go.WideShapes Go.Deep Go.RowKit Pl A1
set_option maxRecDepth 100000
end Go.Proofs.YtbpbopjlcidefaaDoor.Op
end
