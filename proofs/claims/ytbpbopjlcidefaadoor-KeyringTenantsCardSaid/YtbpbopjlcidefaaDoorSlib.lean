/- A value that is a slice of strings, as it is read. No condition. The library's contracts for slices of strings in the words of this proof: slices.Contains, Index, Equal, Sort; strconv.Itoa below 100. Conditions: fewer than 2^62 elements. -/
import Derived.Test.YtbpbopjlcidefaaDoorLib
import Derived.Test.YtbpbopjlcidefaaDoorWin
import Derived.Test.YtbpbopjlcidefaaDoorShelf2
section
namespace Go.Proofs.YtbpbopjlcidefaaDoor
open Go.RowKit Pl
namespace A1
/-- A value holds these strings. -/
def StrsV (w : World) (v : Value) (xs : List Bs) : Prop :=
  (xs = [] ∧ (v = .slice none 0 0 ∨ ∃ a c, v = .slice (some a) 0 c)) ∨ ∃ b o c : Nat, v = .slice (some ⟨b, o, none⟩) xs.length c ∧ xs.length ≤ c ∧ b < w.heap.size ∧ CellsAt w b o xs
theorem StrsV.below {w w' : World} {v : Value} {xs : List Bs} (h : StrsV w v xs) (hb : Below w.heap.size w w') : StrsV w' v xs := by
  rcases h with h | ⟨b, o, c, h1, h2, h3, h4⟩
  · exact .inl h
  · exact .inr ⟨b, o, c, h1, h2, Nat.lt_of_lt_of_le h3 hb.size, h4.below hb h3⟩
theorem StrsV.drewN {w : World} {v : Value} {xs : List Bs} (h : StrsV w v xs) (q : Nat) : StrsV (w.drewN q) v xs :=
  h.below (below_drewN (Below.refl _ _) q)
theorem CellsAt.one {w : World} {b o k : Nat} {xs : List Bs} (h : CellsAt w b o xs) (hk : k < xs.length) : w.cell? ⟨b, o + k, none⟩ = some (.string ⟨(xs[k]).toArray⟩) := h k xs[k] (by simp [hk])
theorem StrsV.form {w : World} {v : Value} {xs : List Bs} (h : StrsV w v xs) : ∃ a c, v = .slice a xs.length c := by
  rcases h with ⟨rfl, rfl | ⟨a, c, rfl⟩⟩ | ⟨b, o, c, rfl, _⟩
  · exact ⟨_, _, rfl⟩
  · exact ⟨_, _, rfl⟩
  · exact ⟨_, _, rfl⟩
end A1
end Go.Proofs.YtbpbopjlcidefaaDoor
end

section
namespace Go.Proofs.YtbpbopjlcidefaaDoor
open Go.RowKit Pl
namespace A1

theorem bsOf_inj {a b : Bs} (h : (⟨a.toArray⟩ : ByteArray) = ⟨b.toArray⟩) : a = b := by
  have := congrArg (fun x : ByteArray => x.data.toList) h
  simpa using this
theorem mem_bytes (xs : List Bs) (x : Bs) : (⟨x.toArray⟩ : ByteArray) ∈ xs.map (fun y : Bs => (⟨y.toArray⟩ : ByteArray)) ↔ x ∈ xs := by
  constructor
  · intro h
    obtain ⟨y, hy, e⟩ := List.mem_map.1 h
    rw [← bsOf_inj e]; exact hy
  · exact fun h => List.mem_map.2 ⟨x, h, rfl⟩
theorem map_bytes_inj : ∀ {xs ys : List Bs}, xs.map (fun y : Bs => (⟨y.toArray⟩ : ByteArray)) = ys.map (fun y : Bs => (⟨y.toArray⟩ : ByteArray)) → xs = ys
  | [], [], _ => rfl
  | [], _ :: _, h => by simp at h
  | _ :: _, [], h => by simp at h
  | x :: xs, y :: ys, h => by
    simp only [List.map_cons, List.cons.injEq] at h
    rw [bsOf_inj h.1, map_bytes_inj h.2]
theorem cells_bytes {w : World} {b o : Nat} {xs : List Bs} (h : CellsAt w b o xs) : ∀ j, j < (xs.map fun y : Bs => (⟨y.toArray⟩ : ByteArray)).length → w.cell? ⟨b, o + j, none⟩ = some (.string ((xs.map fun y : Bs => (⟨y.toArray⟩ : ByteArray)).getD j ByteArray.empty)) := by
  intro j hj
  rw [List.length_map] at hj
  rw [h j xs[j] (by simp [hj])]
  simp [List.getD, hj]

/-- The row of a sort: the same cells, in order. -/
theorem sort_any (B : Nat) (v : Value) (xs : List Bs) (w : World) (hown : OwnWin w B 9 1 v xs.length (svals xs)) (hn : xs.length < 4611686018427387904) :
    Calls Tryd.prog 30 #[v] w fun e w' => e = .returned (.tuple #[]) ∧ OwnWin w' B 9 1 v xs.length (svals (xs.mergeSort fun x y => decide (x ≤ y))) ∧ Touch (fun k => v.ownBlock = some k) w w' := by
  rcases Nat.eq_zero_or_pos xs.length with h0 | h0
  · have hx : xs = [] := List.eq_nil_of_length_eq_zero h0
    subst hx
    obtain ⟨a, c, rfl, _⟩ := hown.form
    exact (Tryd.slices_Sort_string_none a c w).mono fun e w' h => by
      obtain ⟨rfl, rfl⟩ := h
      exact ⟨rfl, by simpa using hown, Touch.refl _ _⟩
  · rcases hown.2 with ⟨_, h9⟩ | ⟨g, o, cap, cur, rfl, hb, hg, hnc, hm, hsz, htake⟩
    · omega
    · have hlt : g < w.heap.size := (Array.getElem?_eq_some_iff.1 hg).1
      have hH : Sort.Holds encStr w g o xs.toArray := by
        intro j hj
        simp only [List.size_toArray] at hj
        refine ⟨?_, ?_⟩
        · obtain ⟨g', o', c', e', _, _, _, _, hc⟩ := hown.cells h0
          cases e'
          rw [hc j (str xs[j]) (by simp [svals, hj])]
          simp [encStr, hj, str]
        · unfold World.frozen?
          rw [hg]
          simp
      refine (Tryd.slices_Sort_string g o cap xs w hH hlt hn).mono fun e w' h => ?_
      obtain ⟨rfl, n, os, rfl⟩ := h
      refine ⟨rfl, ⟨by simp [svals], .inr ⟨g, o, cap, Sort.putCells encStr o (xs.mergeSort fun x y => decide (x ≤ y)).toArray cur, rfl, hb, ?_, hnc, hm, ?_, ?_⟩⟩, ⟨rfl, rfl, rfl, by simp, ?_⟩⟩
      · rw [Sort.heap_grow_old _ _ (by simpa using hlt)]
        show ((Sort.ahead w n).heap.modify g _)[g]? = _
        rw [Array.getElem?_modify, if_pos rfl]
        show (w.heap[g]?).map _ = _
        rw [hg]; rfl
      · simpa [Sort.putCells] using hsz
      · apply List.ext_getElem?
        intro k
        rw [List.getElem?_take]
        have hsl : (xs.mergeSort fun x y => decide (x ≤ y)).length = xs.length := List.length_mergeSort _
        by_cases hk : k < xs.length
        · have hko : o + k < cur.size := by omega
          rw [if_pos (by omega), List.getElem?_drop]
          simp [Sort.putCells, hk, hko, svals, encStr, str, hsl]
        · rw [if_neg (by omega)]
          simp [svals, hsl, Nat.le_of_not_lt hk]
      · intro k hk hne
        rw [Sort.heap_grow_old _ _ (by simpa using hk)]
        show ((Sort.ahead w n).heap.modify g _)[k]? = _
        rw [Array.getElem?_modify, if_neg (fun e => hne (by simp [Value.ownBlock, e]))]
        rfl
end A1
end Go.Proofs.YtbpbopjlcidefaaDoor
end
