/- A value that is a slice of strings, as it is read. No condition. The library's contracts for slices of strings in the words of this proof: slices.Contains, Index, Equal, Sort; strconv.Itoa below 100. Conditions: fewer than 2^62 elements. -/
import Derived.Test.YtnppicekfjdefaaGreatDoorLib
import Derived.Test.YtnppicekfjdefaaGreatDoorWin
import Derived.Test.YtnppicekfjdefaaGreatDoorShelf2
section
namespace Go.Proofs.YtnppicekfjdefaaGreatDoor
open Go.RowKit Pl
namespace A1
/-- A value holds these strings. -/
def StrsV (w : World) (v : Value) (xs : List Bs) : Prop :=
  (xs = [] ∧ (v = .slice none 0 0 ∨ ∃ a c, v = .slice (some a) 0 c)) ∨ ∃ b o c : Nat, v = .slice (some ⟨b, o, none⟩) xs.length c ∧ xs.length ≤ c ∧ b < w.heap.size ∧ CellsAt w b o xs
theorem StrsV.below {w w' : World} {v : Value} {xs : List Bs} (h : StrsV w v xs) (hb : Below w.heap.size w w') : StrsV w' v xs := by
  rcases h with h | ⟨b, o, c, h1, h2, h3, h4⟩
  · exact .inl h
  · exact .inr ⟨b, o, c, h1, h2, Nat.lt_of_lt_of_le h3 hb.size, h4.below hb h3⟩
theorem StrsV.drewN {w : World} {v : Value} {xs : List Bs} (h : StrsV w v xs) (q : Nat) : StrsV (w.drewN q) v xs :=
  h.below (below_drewN (Below.refl _ _) q)
theorem CellsAt.one {w : World} {b o k : Nat} {xs : List Bs} (h : CellsAt w b o xs) (hk : k < xs.length) : w.cell? ⟨b, o + k, none⟩ = some (.string ⟨(xs[k]).toArray⟩) := h k xs[k] (by simp [hk])
theorem StrsV.form {w : World} {v : Value} {xs : List Bs} (h : StrsV w v xs) : ∃ a c, v = .slice a xs.length c := by
  rcases h with ⟨rfl, rfl | ⟨a, c, rfl⟩⟩ | ⟨b, o, c, rfl, _⟩
  · exact ⟨_, _, rfl⟩
  · exact ⟨_, _, rfl⟩
  · exact ⟨_, _, rfl⟩
end A1
end Go.Proofs.YtnppicekfjdefaaGreatDoor
end

section
namespace Go.Proofs.YtnppicekfjdefaaGreatDoor
open Go.RowKit Pl
namespace A1

theorem bsOf_inj {a b : Bs} (h : (⟨a.toArray⟩ : ByteArray) = ⟨b.toArray⟩) : a = b := by
  have := congrArg (fun x : ByteArray => x.data.toList) h
  simpa using this
theorem mem_bytes (xs : List Bs) (x : Bs) : (⟨x.toArray⟩ : ByteArray) ∈ xs.map (fun y : Bs => (⟨y.toArray⟩ : ByteArray)) ↔ x ∈ xs := by
  constructor
  · intro h
    obtain ⟨y, hy, e⟩ := List.mem_map.1 h
    rw [← bsOf_inj e]; exact hy
  · exact fun h => List.mem_map.2 ⟨x, h, rfl⟩
theorem map_bytes_inj : ∀ {xs ys : List Bs}, xs.map (fun y : Bs => (⟨y.toArray⟩ : ByteArray)) = ys.map (fun y : Bs => (⟨y.toArray⟩ : ByteArray)) → xs = ys
  | [], [], _ => rfl
  | [], _ :: _, h => by simp at h
  | _ :: _, [], h => by simp at h
  | x :: xs, y :: ys, h => by
    simp only [List.map_cons, List.cons.injEq] at h
    rw [bsOf_inj h.1, map_bytes_inj h.2]
theorem cells_bytes {w : World} {b o : Nat} {xs : List Bs} (h : CellsAt w b o xs) : ∀ j, j < (xs.map fun y : Bs => (⟨y.toArray⟩ : ByteArray)).length → w.cell? ⟨b, o + j, none⟩ = some (.string ((xs.map fun y : Bs => (⟨y.toArray⟩ : ByteArray)).getD j ByteArray.empty)) := by
  intro j hj
  rw [List.length_map] at hj
  rw [h j xs[j] (by simp [hj])]
  simp [List.getD, hj]

theorem contains_any (v : Value) (xs : List Bs) (x : Bs) (w : World) (hv : StrsV w v xs) (hn : xs.length ≤ 9223372036854775807) :
    Calls Tryz.prog 48 #[v, .string ⟨x.toArray⟩] w fun e w' => e = .returned (.bool (decide (x ∈ xs))) ∧ w = w' := by
  obtain ⟨a0, c0, hv0⟩ := hv.form
  rcases hv with ⟨rfl, _⟩ | ⟨b, o, c, rfl, _, _, hc⟩
  · subst hv0
    exact (Tryz.slices_Contains_string_empty a0 c0 ⟨x.toArray⟩ w).mono fun e w' h => ⟨by rw [h.1]; simp, h.2.symm⟩
  · refine (Tryz.slices_Contains_string b o xs.length c (xs.map fun y : Bs => (⟨y.toArray⟩ : ByteArray)) ⟨x.toArray⟩ w (by simp) hn (cells_bytes hc)).mono fun e w' h => ⟨?_, h.2.symm⟩
    rw [h.1, List.take_of_length_le (by simp)]
    congr 2
    rw [Bool.eq_iff_iff, Lib.containsS_iff, mem_bytes, decide_eq_true_eq]

theorem equal_any (v u : Value) (xs ys : List Bs) (w : World) (hv : StrsV w v xs) (hu : StrsV w u ys) (hx : xs.length ≤ 9223372036854775807) (hy : ys.length ≤ 9223372036854775807) :
    Calls Tryz.prog 63 #[v, u] w fun e w' => e = .returned (.bool (decide (xs = ys))) ∧ Below w.heap.size w w' := by
  by_cases hl : xs.length = ys.length
  · obtain ⟨a0, c0, hv0⟩ := hv.form
    rcases hv with ⟨rfl, _⟩ | ⟨b, o, c, rfl, _, _, hc⟩
    · have : ys = [] := List.eq_nil_of_length_eq_zero hl.symm
      subst this
      subst hv0
      obtain ⟨a2, c2, rfl⟩ := hu.form
      exact (Tryz.slices_Equal_string_empty a0 a2 c0 0 c2 w (by omega)).mono fun e w' h => ⟨by rw [h.1]; simp, h.2 ▸ Below.refl _ _⟩
    · obtain ⟨a2', c2', hu0⟩ := hu.form
      rcases hu with ⟨rfl, _⟩ | ⟨b2, o2, c2, rfl, _, _, hc2⟩
      · have : xs = [] := List.eq_nil_of_length_eq_zero hl
        subst this
        subst hu0
        exact (Tryz.slices_Equal_string_empty (some ⟨b, o, none⟩) a2' c 0 c2' w (by omega)).mono fun e w' h => ⟨by rw [h.1]; simp, h.2 ▸ Below.refl _ _⟩
      · refine (Tryz.slices_Equal_string b o xs.length c b2 o2 ys.length c2 (xs.map fun y : Bs => (⟨y.toArray⟩ : ByteArray)) (ys.map fun y : Bs => (⟨y.toArray⟩ : ByteArray)) w (by simp) (by simp) hx hy (cells_bytes hc) (cells_bytes hc2)).mono fun e w' h => ⟨?_, ?_⟩
        · rw [h.1, List.take_of_length_le (by simp), List.take_of_length_le (by simp)]
          congr 2
          rw [decide_eq_decide]
          exact ⟨map_bytes_inj, fun e => by rw [e]⟩
        · obtain ⟨q, rfl⟩ := h.2
          exact below_drewN (Below.refl _ _) q
  · obtain ⟨a1, c1, rfl⟩ := hv.form
    obtain ⟨a2, c2, rfl⟩ := hu.form
    exact (Tryz.slices_Equal_string_lens a1 a2 xs.length c1 ys.length c2 w hl).mono fun e w' h => ⟨by rw [h.1, decide_eq_false (fun e => hl (by rw [e]))], h.2 ▸ Below.refl _ _⟩

/-- The row of a sort: the same cells, in order. -/
theorem sort_any (B : Nat) (v : Value) (xs : List Bs) (w : World) (hown : OwnWin w B 9 1 v xs.length (svals xs)) (hn : xs.length < 4611686018427387904) :
    Calls Tryz.prog 76 #[v] w fun e w' => e = .returned (.tuple #[]) ∧ OwnWin w' B 9 1 v xs.length (svals (xs.mergeSort fun x y => decide (x ≤ y))) ∧ Touch (fun k => v.ownBlock = some k) w w' := by
  rcases Nat.eq_zero_or_pos xs.length with h0 | h0
  · have hx : xs = [] := List.eq_nil_of_length_eq_zero h0
    subst hx
    obtain ⟨a, c, rfl, _⟩ := hown.form
    exact (Tryz.slices_Sort_string_none a c w).mono fun e w' h => by
      obtain ⟨rfl, rfl⟩ := h
      exact ⟨rfl, by simpa using hown, Touch.refl _ _⟩
  · rcases hown.2 with ⟨_, h9⟩ | ⟨g, o, cap, cur, rfl, hb, hg, hnc, hm, hsz, htake⟩
    · omega
    · have hlt : g < w.heap.size := (Array.getElem?_eq_some_iff.1 hg).1
      have hH : Sort.Holds encStr w g o xs.toArray := by
        intro j hj
        simp only [List.size_toArray] at hj
        refine ⟨?_, ?_⟩
        · obtain ⟨g', o', c', e', _, _, _, _, hc⟩ := hown.cells h0
          cases e'
          rw [hc j (str xs[j]) (by simp [svals, hj])]
          simp [encStr, hj, str]
        · unfold World.frozen?
          rw [hg]
          simp
      refine (Tryz.slices_Sort_string g o cap xs w hH hlt hn).mono fun e w' h => ?_
      obtain ⟨rfl, n, os, rfl⟩ := h
      refine ⟨rfl, ⟨by simp [svals], .inr ⟨g, o, cap, Sort.putCells encStr o (xs.mergeSort fun x y => decide (x ≤ y)).toArray cur, rfl, hb, ?_, hnc, hm, ?_, ?_⟩⟩, ⟨rfl, rfl, rfl, by simp, ?_⟩⟩
      · rw [Sort.heap_grow_old _ _ (by simpa using hlt)]
        show ((Sort.ahead w n).heap.modify g _)[g]? = _
        rw [Array.getElem?_modify, if_pos rfl]
        show (w.heap[g]?).map _ = _
        rw [hg]; rfl
      · simpa [Sort.putCells] using hsz
      · apply List.ext_getElem?
        intro k
        rw [List.getElem?_take]
        have hsl : (xs.mergeSort fun x y => decide (x ≤ y)).length = xs.length := List.length_mergeSort _
        by_cases hk : k < xs.length
        · have hko : o + k < cur.size := by omega
          rw [if_pos (by omega), List.getElem?_drop]
          simp [Sort.putCells, hk, hko, svals, encStr, str, hsl]
        · rw [if_neg (by omega)]
          simp [svals, hsl, Nat.le_of_not_lt hk]
      · intro k hk hne
        rw [Sort.heap_grow_old _ _ (by simpa using hk)]
        show ((Sort.ahead w n).heap.modify g _)[k]? = _
        rw [Array.getElem?_modify, if_neg (fun e => hne (by simp [Value.ownBlock, e]))]
        rfl
end A1
end Go.Proofs.YtnppicekfjdefaaGreatDoor
end
